/- The statements' awake: Read at the document's example. -/
import Derived.Test.YtmhddlhlniajpaaRE
namespace Go.Proofs.Ytmhddlhlniajpaa
open Go.RowKit
abbrev plusR : Rul := ⟨1, ⟨#[43]⟩, ⟨#[112, 108, 117, 115]⟩, 40, 40, 40⟩
def plusT : List ByteArray := [⟨#[35]⟩, ⟨#[43]⟩, ⟨#[35]⟩, ⟨#[43]⟩, ⟨#[35]⟩]
theorem plus_valid : validB [plusR] = true := by
  simp only [validB, firstsB, ownB, freshB, namedB, lettersB, symB, ByteArray.toList_eq, List.length_cons, List.length_nil, List.getElem?_cons_zero, List.take_zero, List.any_nil]
  decide
theorem plus_toks : toksB plusT = true := by
  simp only [toksB, plusT, List.all_cons, List.all_nil, tokOK, ByteArray.toList_eq]
  decide
abbrev opR (k : Int) : Rd := .mk (-1) k []
set_option maxHeartbeats 2000000 in
theorem plus_all : allR [plusR] plusT 0 5 = [.mk 0 0 [opR 0, .mk 0 2 [opR 2, opR 4]], .mk 0 0 [.mk 0 0 [opR 0, opR 2], opR 4]] := by
  simp [allR, allF, bodyR, baseR, ofRule, tokB, plusT, opndL, ByteArray.toList_eq, leastR, pairsR, precI, List.range', List.range_succ]
  rfl
theorem plus_read : readL [plusR] plusT = [.mk 0 0 [opR 0, .mk 0 2 [opR 2, opR 4]], .mk 0 0 [.mk 0 0 [opR 0, opR 2], opR 4]] := by
  unfold readL
  rw [plus_valid, plus_toks, Bool.and_self, if_pos rfl, show plusT.length = 5 from rfl, plus_all]
  rfl
theorem plus_fits : plusR.fits := ⟨by decide, by decide⟩
theorem plusAt (w : World) : RulsAt (w.alloc (.cells plusR.c 41)) (some ⟨w.heap.size, 0, none⟩) [plusR] := by
  intro k r hk
  match k, hk with
  | 0, hk =>
    simp at hk
    subst hk
    exact ⟨plus_fits, _, rfl, by simp, fun j v hj => by
      rw [show (⟨w.heap.size, 0, none⟩ : Addr).add (0 * 6 + j) = ⟨w.heap.size, j, none⟩ by unfold Addr.add; simp; omega]
      rw [Blk.cell (Blk.new w 41 plusR.c)]; exact hj⟩
theorem plusTs (w : World) : ToksAt (w.alloc (.cells #[.string ⟨#[35]⟩, .string ⟨#[43]⟩, .string ⟨#[35]⟩, .string ⟨#[43]⟩, .string ⟨#[35]⟩] 9)) (some ⟨w.heap.size, 0, none⟩) plusT := by
  intro j s hj
  refine ⟨?_, _, rfl, by simp, ?_⟩
  · match j, hj with
    | 0, hj => obtain rfl := Option.some.inj hj; show 1 ≤ _; omega
    | 1, hj => obtain rfl := Option.some.inj hj; show 1 ≤ _; omega
    | 2, hj => obtain rfl := Option.some.inj hj; show 1 ≤ _; omega
    | 3, hj => obtain rfl := Option.some.inj hj; show 1 ≤ _; omega
    | 4, hj => obtain rfl := Option.some.inj hj; show 1 ≤ _; omega
  · refine cells_new w [.string ⟨#[35]⟩, .string ⟨#[43]⟩, .string ⟨#[35]⟩, .string ⟨#[43]⟩, .string ⟨#[35]⟩] 9 j _ ?_
    match j, hj with
    | 0, hj => obtain rfl := Option.some.inj hj; rfl
    | 1, hj => obtain rfl := Option.some.inj hj; rfl
    | 2, hj => obtain rfl := Option.some.inj hj; rfl
    | 3, hj => obtain rfl := Option.some.inj hj; rfl
    | 4, hj => obtain rfl := Option.some.inj hj; rfl
theorem plus_any (w : World) : Calls Try.prog 27 #[] w fun e w' => e = .returned (.slice (some ⟨w.heap.size, 0, none⟩) 1 1) ∧ w' = w.alloc (.cells plusR.c 41) := by
  go_enter Try.func27, Try.ntmps27
  go_wp2_with fail
  go_ret
  exact ⟨rfl, rfl⟩
set_option maxRecDepth 100000 in
set_option maxHeartbeats 1600000 in
theorem awake_any (w : World) : Calls Try.prog 11 #[] w fun e w' => e = .returned (.bool true) ∧ Below w.heap.size w w' := by
  go_enter Try.func11, Try.ntmps11
  go_wp2_with fail
  refine (plus_any _).mono ?_
  rintro e w1 ⟨rfl, rfl⟩
  have hba := bel_alloc w (.cells plusR.c 41)
  have HR := Lib.hid (plusAt w)
  have HB := Lib.hid hba
  generalize w.alloc (.cells plusR.c 41) = w1 at *
  clear hba
  go_wp2_with fail
  have hba := bel_alloc w1 (.cells #[.string ⟨#[35]⟩, .string ⟨#[43]⟩, .string ⟨#[35]⟩, .string ⟨#[43]⟩, .string ⟨#[35]⟩] 9)
  have HT := Lib.hid (plusTs w1)
  have HR := Lib.hid (HR.out.keep hba)
  have HB := Lib.hid (HB.out.trans (hba.mono HB.out.size))
  generalize w1.alloc (.cells #[.string ⟨#[35]⟩, .string ⟨#[43]⟩, .string ⟨#[35]⟩, .string ⟨#[43]⟩, .string ⟨#[35]⟩] 9) = w2 at *
  clear hba
  refine (read_any (some ⟨w.heap.size, 0, none⟩) (some ⟨w1.heap.size, 0, none⟩) 1 5 [plusR] plusT w2 HR.out HT.out (by simp) (by omega)).mono ?_
  rintro e w3 ⟨A, cap, rfl, hl, hc, hr, hb⟩
  rw [plus_read, show okI [plusR] plusT = 0 from read_ok (by rw [plus_valid, plus_toks]; rfl)] at *
  have HB := Lib.hid (HB.out.trans (hb.mono HB.out.size))
  obtain ⟨ad, rfl, _, _, c, hc1, hd⟩ := hr 0 _ rfl
  obtain ⟨A2, cap2, rfl, _, _, hk⟩ := hc1.form
  obtain ⟨ad2, rfl, _, _, c2, hc2, hd2⟩ := hk 1 _ rfl
  obtain ⟨A3, cap3, rfl, _, _, _⟩ := hc2.form
  have d2 : w3.cell? ⟨ad.block, ad.off + 2, none⟩ = some (.slice (some ad2) 2 cap2) := add_cell (n := 0) (j := 1) (hd 2 (by omega))
  have d4 : w3.cell? ⟨ad2.block, ad2.off + 3 + 1, none⟩ = some (.int .i64 2) := add_cell (n := 3) (j := 0) (hd2 1 (by omega))
  clear hb hc1 hk hc2 hd hd2 hl hc hr HT HR
  go_wp2_with fail
  go_ret
  exact ⟨rfl, HB.out⟩
end Go.Proofs.Ytmhddlhlniajpaa
