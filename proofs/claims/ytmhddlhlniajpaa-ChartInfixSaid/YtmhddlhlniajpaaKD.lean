/- A cell of the counter. -/
import Derived.Test.YtmhddlhlniajpaaKB
namespace Go.Proofs.Ytmhddlhlniajpaa
open Go.RowKit
theorem num_made {w : World} {rs : List Rul} {ts : List ByteArray} {i j : Nat} (h : ¬ (j = i + 1 ∧ tokB ts i opndL = true)) : NumS (w.alloc (.map #[] 0)) w.heap.size (([] : List App).length + 1) rs (cellL rs ts i j []) (.map []) := by
  refine ⟨(World.ownsMap_made _ _ _ _).mono (by simp), fun p => ?_⟩
  rw [atP_base, if_neg (fun hh => h hh.1)]
  rfl
theorem num_base {w : World} {bm : Nat} {rs : List Rul} {ts : List ByteArray} {i j : Nat} (h : j = i + 1 ∧ tokB ts i opndL = true) (hw : w.ownsMap Try.prog 3 (plainElem Try.prog 3) bm (0 + 1) ((DataW.map [] : DataW Unit).put (.int .i64 101) (.lit (.int .i64 1)))) : NumS w bm (([] : List App).length + 1) rs (cellL rs ts i j []) ((DataW.map [] : DataW Unit).put (.int .i64 101) (.lit (.int .i64 1))) := by
  refine ⟨hw, fun p => ?_⟩
  rw [atP_base]
  by_cases e : p = 101
  · subst e
    rw [Maps.atKey_put_same Maps.isMap_empty (by trivial), if_pos ⟨h, rfl⟩]
    rfl
  · rw [Maps.atKey_put_other (fun hh => e (by simpa using hh)), if_neg (fun hh => e hh.2)]
    rfl
def CellP (rs : List Rul) (l : List Rd) (w : World) (e : Ending) (w' : World) : Prop := ∃ bm, e = .returned (.map (some bm)) ∧ NumO w' bm rs l ∧ Below w.heap.size w w'
set_option maxRecDepth 100000 in
set_option maxHeartbeats 4000000 in
theorem cellC_any (g : Nat) (F : Fin) (rs : List Rul) (ts : List ByteArray) (gc : Nat) (rows : Nat → Nat) (fill : Nat → Nat → Bool) (i j : Nat) (w : World) (hv : validB rs = true) (hT : CouAt w g F rs ts gc rows fill) (hij : i < j) (hj : j ≤ ts.length) (hf : ∀ p q, i ≤ p → p < q → q ≤ j → q - p < j - i → fill p q = true) (hm : ts.length ≤ 1000000) :
    Calls Try.prog 54 #[ptrV g, .int .i64 i, .int .i64 j] w (CellP rs (allR rs ts i j) w) := by
  obtain ⟨R, cR, T, cT, I, cI, P, cP, Q, cQ⟩ := F
  have hmf : ∀ (fn : Fn) (first cap : Array Value) (w : World), (Instr.makeFunc fn first cap).run Try.prog w = .ok (.func fn first cap) w := fun _ _ _ _ => rfl
  have hmm := @run_makeMap Try.prog
  have HFI := Lib.hid hf
  have HV := Lib.hid hv
  have HT := Lib.hid hT
  have hjn : j ≤ ts.length := hj
  obtain ⟨s, hs⟩ : ∃ s, ts[i]? = some s := ⟨_, List.getElem?_eq_getElem (by omega)⟩
  have HTB := Lib.hid (show tokB ts i opndL = (s.toList == opndL) by unfold tokB; rw [hs])
  have HS := Lib.hid hs
  obtain ⟨_, adT, hAT, _, _⟩ := hT.fin.toks i s hs
  dsimp only at hAT
  subst hAT
  have hba := bel_alloc w (.cells #[ptrV g] 67)
  have hbx := (bel_alloc (w.alloc (.cells #[ptrV g] 67)) (.map #[] 0)).trans ((bel_alloc ((w.alloc (.cells #[ptrV g] 67)).alloc (.map #[] 0)) (.cells #[.map (some (w.heap.size + 1))] 99)).mono (by simp))
  have HB := Lib.hid (hba.trans (hbx.mono hba.size))
  have K2 := Lib.hid (keep hbx (Blk.new w 67 #[ptrV g]))
  have K1 := Blk.new ((w.alloc (.cells #[ptrV g] 67)).alloc (.map #[] 0)) 99 #[.map (some (w.heap.size + 1))]
  rw [World.size_alloc, World.size_alloc] at K1
  have K1 := Lib.hid K1
  have hbm := bel_alloc ((w.alloc (.cells #[ptrV g] 67)).alloc (.map #[] 0)) (.cells #[.map (some (w.heap.size + 1))] 99)
  have HN0 := (World.ownsMap_made (w.alloc (.cells #[ptrV g] 67)) Try.prog 3 (plainElem (H := Unit) Try.prog 3)).kept (row := none) ⟨hbm.os, hbm.tape, hbm.output, hbm.size, fun i hi _ => hbm.block i hi⟩ (by simp)
  rw [World.size_alloc] at HN0
  have HN0 := Lib.hid HN0
  have HN1 := Lib.hid (fun h => (num_made (w := w.alloc (.cells #[ptrV g] 67)) (rs := rs) (ts := ts) (i := i) (j := j) h).keep hbm)
  rw [World.size_alloc] at HN1
  clear hba hbx hbm hT hf hv hs
  go_enter Try.func54, Try.ntmps54
  go_upto_region 2 with (fail)
  generalize ((w.alloc (.cells #[ptrV g] 67)).alloc (.map #[] 0)).alloc (.cells _ 99) = w1 at *
  clear hmm
  have hOP : (⟨#[35]⟩ : ByteArray).toList = opndL := by rw [ByteArray.toList_eq]; rfl
  by_cases hji : j = i + 1
  · have hjd : ((j : Int) == (i : Int) + 1) = true := by rw [beq_iff_eq]; omega
    have hin : (i : Int) < (ts.length : Int) := by omega
    have HTx := Lib.hid (HT.out.keep HB.out)
    have ct1 := HTx.out.blk.cell 1
    have ckp := K2.out.cell 0
    dsimp only at ct1
    obtain ⟨_, adT', hAT', _, ctk⟩ := HTx.out.fin.toks i s HS.out
    dsimp only at hAT'
    obtain rfl := Option.some.inj hAT'
    have HBS := Lib.hid hji
    clear hji
    cases hq : (s.toList == opndL)
    · have HN := Lib.hid (HN1.out (fun h => by rw [HTB.out, hq] at h; exact absurd h.2 (by simp)))
      go_upto_if 23 with (fail)
      clear ct1 ckp ctk hjd hq
      have HC0 := Lib.hid (show CntS w g (w.heap.size + 1 + 1) w.heap.size (w.heap.size + 1) rs ts i j [] w1 from ⟨K1.out, K2.out, HB.out, ⟨_, HN.out⟩, Nat.le_succ _⟩)
      have ck2 := K2.out.cell 0
      have HTx := Lib.hid (HT.out.keep HB.out)
      have ct0 := HTx.out.blk.cell 0
      have ct1 := HTx.out.blk.cell 1
      have ct2 := HTx.out.blk.cell 2
      have ct3 := HTx.out.blk.cell 3
      have ct4 := HTx.out.blk.cell 4
      have ct5 := HTx.out.blk.cell 5
      dsimp only at ct0 ct1 ct2 ct3 ct4 ct5
      go_wp2_with fail
      refine (apps_any 75 #[ptrV w.heap.size, ptrV (w.heap.size + 1 + 1)] ⟨R, cR, (some adT), cT, I, cI, P, cP, Q, cQ⟩ rs ts i j (CntS w g (w.heap.size + 1 + 1) w.heap.size (w.heap.size + 1) rs ts i j) w1 hij hj hm (fun l w hc => HT.out.fin.keep hc.below) (fun l w w' hc hb => hc.keep hb) (visit_count g _ rs ts gc rows fill i j _ _ _ w HV.out HT.out hij hj HFI.out hm) HC0.out (fun _ _ => by rfl)).mono ?_
      rintro e w4 ⟨rfl, hc⟩
      obtain ⟨k1, k2, hb, ⟨D, hM⟩, _⟩ := hc
      have HM := Lib.hid hM
      have HBf := Lib.hid hb
      have ck1 := k1.cell 0
      clear k1 k2 hb hM ct0 ct1 ct2 ct3 ct4 ct5 ck2 HC0
      go_wp2_with fail
      go_ret
      exact ⟨_, rfl, ⟨_, _, by have := apps_len (rs := rs) (ts := ts) (i := i) (j := j); omega, NumS.same HM.out (fun p => cell_all HV.out hij hj (fun a ha => (app_in hij ha).1) _)⟩, HBf.out⟩
    · have HBS := Lib.hid (show j = i + 1 ∧ tokB ts i opndL = true from ⟨HBS.out, by rw [HTB.out, hq]⟩)
      have HKEY := Lib.hid (Maps.keyOf_int_mk (P := Try.prog) (k := 3) Try.underlying3 (q := .i64) (a := 101) (WalkArith.wf_i64 (by omega)))
      have hval : plainElem (H := Unit) Try.prog 3 (.int .i64 1) = some (.lit (.int .i64 1), []) := plainElem_int Try.underlying3 (WalkArith.wf_i64 (by omega))
      go_upto_if 23 with (fail)
      clear ct1 ckp ctk hjd hq
      have ck1 := K1.out.cell 0
      go_upto_region 4 with (first | (at_mapUpdate; refine wpList_mapUpdate_own _ rfl _ _ _ 99 rfl 3 3 lawI Try.underlying99 _ (w.heap.size + 1) 0 _ rfl HN0.out (by decide) _ _ (.int .i64 101) rfl rfl HKEY.out _ [] hval ?_; intro w6 hm6 hg6) | fail)
      have HN := Lib.hid (num_base (rs := rs) HBS.out hm6)
      have K1 := Lib.hid (K1.out.grown hg6 (by simp))
      have K2 := Lib.hid (K2.out.grown hg6 (by simp))
      have HB := Lib.hid (HB.out.grown hg6 HB.out.size (fun k hk => by cases hk; omega))
      clear hm6 hg6 ck1
      have HC0 := Lib.hid (show CntS w g (w.heap.size + 1 + 1) w.heap.size (w.heap.size + 1) rs ts i j [] w6 from ⟨K1.out, K2.out, HB.out, ⟨_, HN.out⟩, Nat.le_succ _⟩)
      have ck2 := K2.out.cell 0
      have HTx := Lib.hid (HT.out.keep HB.out)
      have ct0 := HTx.out.blk.cell 0
      have ct1 := HTx.out.blk.cell 1
      have ct2 := HTx.out.blk.cell 2
      have ct3 := HTx.out.blk.cell 3
      have ct4 := HTx.out.blk.cell 4
      have ct5 := HTx.out.blk.cell 5
      dsimp only at ct0 ct1 ct2 ct3 ct4 ct5
      go_wp2_with fail
      refine (apps_any 75 #[ptrV w.heap.size, ptrV (w.heap.size + 1 + 1)] ⟨R, cR, (some adT), cT, I, cI, P, cP, Q, cQ⟩ rs ts i j (CntS w g (w.heap.size + 1 + 1) w.heap.size (w.heap.size + 1) rs ts i j) w6 hij hj hm (fun l w hc => HT.out.fin.keep hc.below) (fun l w w' hc hb => hc.keep hb) (visit_count g _ rs ts gc rows fill i j _ _ _ w HV.out HT.out hij hj HFI.out hm) HC0.out (fun _ _ => by rfl)).mono ?_
      rintro e w4 ⟨rfl, hc⟩
      obtain ⟨k1, k2, hb, ⟨D, hM⟩, _⟩ := hc
      have HM := Lib.hid hM
      have HBf := Lib.hid hb
      have ck1 := k1.cell 0
      clear k1 k2 hb hM ct0 ct1 ct2 ct3 ct4 ct5 ck2 HC0
      go_wp2_with fail
      go_ret
      exact ⟨_, rfl, ⟨_, _, by have := apps_len (rs := rs) (ts := ts) (i := i) (j := j); omega, NumS.same HM.out (fun p => cell_all HV.out hij hj (fun a ha => (app_in hij ha).1) _)⟩, HBf.out⟩
  · have hjd : ((j : Int) == (i : Int) + 1) = false := by rw [beq_eq_false_iff_ne]; omega
    have HN := Lib.hid (HN1.out (fun h => hji h.1))
    clear hji
    go_upto_if 23 with (fail)
    clear hjd
    have HC0 := Lib.hid (show CntS w g (w.heap.size + 1 + 1) w.heap.size (w.heap.size + 1) rs ts i j [] w1 from ⟨K1.out, K2.out, HB.out, ⟨_, HN.out⟩, Nat.le_succ _⟩)
    have ck2 := K2.out.cell 0
    have HTx := Lib.hid (HT.out.keep HB.out)
    have ct0 := HTx.out.blk.cell 0
    have ct1 := HTx.out.blk.cell 1
    have ct2 := HTx.out.blk.cell 2
    have ct3 := HTx.out.blk.cell 3
    have ct4 := HTx.out.blk.cell 4
    have ct5 := HTx.out.blk.cell 5
    dsimp only at ct0 ct1 ct2 ct3 ct4 ct5
    go_wp2_with fail
    refine (apps_any 75 #[ptrV w.heap.size, ptrV (w.heap.size + 1 + 1)] ⟨R, cR, (some adT), cT, I, cI, P, cP, Q, cQ⟩ rs ts i j (CntS w g (w.heap.size + 1 + 1) w.heap.size (w.heap.size + 1) rs ts i j) w1 hij hj hm (fun l w hc => HT.out.fin.keep hc.below) (fun l w w' hc hb => hc.keep hb) (visit_count g _ rs ts gc rows fill i j _ _ _ w HV.out HT.out hij hj HFI.out hm) HC0.out (fun _ _ => by rfl)).mono ?_
    rintro e w4 ⟨rfl, hc⟩
    obtain ⟨k1, k2, hb, ⟨D, hM⟩, _⟩ := hc
    have HM := Lib.hid hM
    have HBf := Lib.hid hb
    have ck1 := k1.cell 0
    clear k1 k2 hb hM ct0 ct1 ct2 ct3 ct4 ct5 ck2 HC0
    go_wp2_with fail
    go_ret
    exact ⟨_, rfl, ⟨_, _, by have := apps_len (rs := rs) (ts := ts) (i := i) (j := j); omega, NumS.same HM.out (fun p => cell_all HV.out hij hj (fun a ha => (app_in hij ha).1) _)⟩, HBf.out⟩
end Go.Proofs.Ytmhddlhlniajpaa
