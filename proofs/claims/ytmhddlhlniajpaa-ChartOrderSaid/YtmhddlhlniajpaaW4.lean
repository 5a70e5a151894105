/- ChartOrder: the walk. -/
import Derived.Test.YtmhddlhlniajpaaCK
import Derived.Test.YtmhddlhlniajpaaW8
import Derived.Test.YtmhddlhlniajpaaSA
import Derived.Test.YtmhddlhlniajpaaLR
namespace Go.Proofs.Ytmhddlhlniajpaa
open Go.RowKit
theorem all_of_read {rs : List Rul} {ts : List ByteArray} : ∀ X, readL rs ts = X → (X = [] → allL rs ts = []) ∧ (∀ a, X = [a] → allL rs ts = [a]) ∧ (∀ a b, X = [a, b] → ∃ l, allL rs ts = a :: b :: l) := by
  intro X h
  rw [readL_all] at h
  match allL rs ts, h with
  | [], h => subst h; exact ⟨fun _ => rfl, fun a h => by simp at h, fun a b h => by simp at h⟩
  | [a], h => subst h; exact ⟨fun h => by simp at h, fun a h => by simpa using h, fun a b h => by simp at h⟩
  | a :: b :: l, h => subst h; exact ⟨fun h => by simp at h, fun a h => by simp at h, fun a' b' h => by simp at h; exact ⟨l, by rw [h.1, h.2]⟩⟩
theorem order_all {rs : List Rul} {ts : List ByteArray} {a b : Rd} {l : List Rd} (h : allL rs ts = a :: b :: l) : cmpR a b = -1 ∧ ∀ x, x ∈ allL rs ts → x = a ∨ cmpR b x ≤ 0 := by
  unfold allL at h ⊢
  split at h
  · rename_i hv
    rw [if_pos hv]
    exact order_two h
  · simp at h
set_option maxRecDepth 100000 in
set_option maxHeartbeats 8000000 in
theorem order_walk (A T : Option Addr) (cap cT : Nat) (rs : List Rul) (ts : List ByteArray) (x : Rd) (c : Array Value) (w : World) (hR : RulsAt w A rs) (hT : ToksAt w T ts) (hX : RdAt (fun _ => True) w x c) (hl0 : rs.length ≤ cap) (hm0 : cap ≤ 9223372036854775807) (hl1 : ts.length ≤ cT) (hm1 : cT ≤ 9223372036854775807) : Calls Try.prog 4 #[.slice A rs.length cap, .slice T ts.length cT, .agg c] w fun e w' => e = .returned (.bool true) ∧ Below w.heap.size w w' := by
  obtain ⟨A', cap', rfl, hl, hc, hk⟩ := hX.form
  have hba := bel_alloc w (.cells (rdC x.rule x.at_ A' x.kids.length cap') 34)
  have HX := Lib.hid (hX.keep hba)
  have HR := Lib.hid (hR.keep hba)
  have HT := Lib.hid (hT.keep hba)
  have HB := Lib.hid hba
  have K1 := Lib.hid (Blk.new w 34 (rdC x.rule x.at_ A' x.kids.length cap'))
  have hrl : rs.length ≤ 9223372036854775807 := by omega
  have htl : ts.length ≤ 9223372036854775807 := by omega
  clear hX hba hR hT hk hl hc
  go_enter Try.func4, Try.ntmps4
  go_wp2_with fail
  refine (awake_any _).mono ?_
  rintro e w1 ⟨rfl, hb⟩
  have HB := Lib.hid (HB.out.trans (hb.mono HB.out.size))
  have HR := Lib.hid (HR.out.keep hb)
  have HT := Lib.hid (HT.out.keep hb)
  have HX := Lib.hid (HX.out.keep hb)
  have K1 := Lib.hid (keep hb K1.out)
  clear hb
  go_wp2_with fail
  refine (short_any A T cap cT rs ts 30 _ HR.out HT.out hrl htl).mono ?_
  rintro e w2 ⟨rfl, rfl⟩
  cases q1 : shortB rs ts 30
  · go_wp2_with fail
    go_ret
    exact ⟨rfl, HB.out⟩
  have L1 := Lib.hid (short_of q1)
  clear q1
  have c0 := K1.out.cell 0
  have c1 := K1.out.cell 1
  have c2 := K1.out.cell 2
  go_wp2_with fail
  refine (few_any (fun _ => True) x _ 50 _ HX.out (by omega) (by omega)).mono ?_
  rintro e w2 ⟨rfl, hb⟩
  have HB := Lib.hid (HB.out.trans (hb.mono HB.out.size))
  have HR := Lib.hid (HR.out.keep hb)
  have HT := Lib.hid (HT.out.keep hb)
  have HX := Lib.hid (HX.out.keep hb)
  have K1 := Lib.hid (keep hb K1.out)
  clear hb c0 c1 c2
  cases q2 : decide ((sizeR x : Int) ≤ 50)
  · go_wp2_with fail
    go_ret
    exact ⟨rfl, HB.out⟩
  clear q2
  go_wp2_with fail
  refine (read_any A T cap cT rs ts _ HR.out HT.out hl0 hm0).mono ?_
  rintro e w3 ⟨L, cl, rfl, k1, k2, hrd, hb⟩
  obtain ⟨hx0, hx1, hx2⟩ := all_of_read (rs := rs) (ts := ts) _ rfl
  have HX0 := Lib.hid hx0
  have HX1 := Lib.hid hx1
  have HX2 := Lib.hid hx2
  have HL := Lib.hid hrd
  have HB := Lib.hid (HB.out.trans (hb.mono HB.out.size))
  have HR := Lib.hid (HR.out.keep hb)
  have HT := Lib.hid (HT.out.keep hb)
  have HX := Lib.hid (HX.out.keep hb)
  have K1 := Lib.hid (keep hb K1.out)
  have HXL := Lib.hid (@read_len rs ts)
  clear hb hrd hx0 hx1 hx2
  generalize readL rs ts = X at *
  generalize okI rs ts = o at *
  match X, k1, k2, HL, HX0, HX1, HX2, HXL with
  | [], k1, k2, HL, HX0, HX1, HX2, HXL =>
    have HA := Lib.hid (HX0.out rfl)
    clear HX0 HX1 HX2 HXL
    go_upto_region 6 with (fail)
    go_quiet (fail)
    have hb := below_drewN (Below.refl w3.heap.size w3) nq
    have HB := Lib.hid (HB.out.trans (hb.mono HB.out.size))
    have HR := Lib.hid (HR.out.keep hb)
    have HT := Lib.hid (HT.out.keep hb)
    have HX := Lib.hid (HX.out.keep hb)
    have HL := Lib.hid (HL.out.keep hb)
    have K1 := Lib.hid (keep hb K1.out)
    clear hb
    generalize w3.drewN nq = w3 at *
    have c0 := K1.out.cell 0
    have c1 := K1.out.cell 1
    have c2 := K1.out.cell 2
    go_wp2_with fail
    refine (rcheck_any A T cap cT rs ts (fun _ => True) x _ _ HR.out HT.out HX.out (by have := L1.out.1; omega) (by have := L1.out.2; omega)).mono ?_
    rintro e w4 ⟨rfl, hb⟩
    have HB := Lib.hid (HB.out.trans (hb.mono HB.out.size))
    have HR := Lib.hid (HR.out.keep hb)
    have HT := Lib.hid (HT.out.keep hb)
    have HX := Lib.hid (HX.out.keep hb)
    have HL := Lib.hid (HL.out.keep hb)
    have K1 := Lib.hid (keep hb K1.out)
    clear hb
    clear c0 c1 c2
    have HQ := Lib.hid (show rchkB rs ts x = false by
      cases hq : rchkB rs ts x
      · rfl
      · rw [rchk_all, HA.out] at hq; simp at hq)
    rw [HQ.out]
    go_wp2_with fail
    go_ret
    exact ⟨rfl, HB.out⟩
  | [a], k1, k2, HL, HX0, HX1, HX2, HXL =>
    have HA := Lib.hid (HX1.out a rfl)
    clear HX0 HX1 HX2 HXL
    go_upto_region 6 with (fail)
    go_quiet (fail)
    have hb := below_drewN (Below.refl w3.heap.size w3) nq
    have HB := Lib.hid (HB.out.trans (hb.mono HB.out.size))
    have HR := Lib.hid (HR.out.keep hb)
    have HT := Lib.hid (HT.out.keep hb)
    have HX := Lib.hid (HX.out.keep hb)
    have HL := Lib.hid (HL.out.keep hb)
    have K1 := Lib.hid (keep hb K1.out)
    clear hb
    generalize w3.drewN nq = w3 at *
    have c0 := K1.out.cell 0
    have c1 := K1.out.cell 1
    have c2 := K1.out.cell 2
    go_wp2_with fail
    refine (rcheck_any A T cap cT rs ts (fun _ => True) x _ _ HR.out HT.out HX.out (by have := L1.out.1; omega) (by have := L1.out.2; omega)).mono ?_
    rintro e w4 ⟨rfl, hb⟩
    have HB := Lib.hid (HB.out.trans (hb.mono HB.out.size))
    have HR := Lib.hid (HR.out.keep hb)
    have HT := Lib.hid (HT.out.keep hb)
    have HX := Lib.hid (HX.out.keep hb)
    have HL := Lib.hid (HL.out.keep hb)
    have K1 := Lib.hid (keep hb K1.out)
    clear hb
    clear c0 c1 c2
    cases hq : rchkB rs ts x
    · go_wp2_with fail
      go_ret
      exact ⟨rfl, HB.out⟩
    have HXA := Lib.hid (show x = a by rw [rchk_all, HA.out] at hq; simpa using hq)
    clear hq
    obtain ⟨ad, A1, k1, rfl, had, hac, _, _, _, d0, d1, d2⟩ := HL.out.at_ (show ([a])[0]? = some a from rfl)
    simp only [Nat.zero_mul, Addr.add_zero'] at d0 d1 d2
    have Had := Lib.hid had
    have HAC := Lib.hid hac
    clear had hac
    have HSS := Lib.hid ((same_iff a x).2 HXA.out.symm)
    go_upto_region 12 with (fail)
    refine region_ghost (X := Unit) (by kernel_rfl) _ (fun gx => [.slice (some ad) 1 cl, .pointer (some (ad.add (0 * 3))), .agg (rdC a.rule a.at_ A1 a.kids.length k1), .agg (rdC x.rule x.at_ A' x.kids.length cap'), .bool true, .bool true]) [true, true, true, true, true, true] [] (InvB w4) () (by kernel_rfl) (fun gx => by simp [fin, finOn, dstAt, List.range, List.range.loop, Act.put]; rfl) (fun _ => by kernel_rfl) (by kernel_rfl) (below_drew (Below.refl _ _)) ?_ ?_
    · refine ⟨fun L gx wq hL hb ha hI => ?_, fun L gx wq hL hb ha hI => ?_, fun L gx wq hL hb ha hI => ?_, fun L gx wq hL hb ha hI => ?_, fun L gx wq hL hb ha hI => ?_, fun L gx wq hL hb ha hI => ?_, trivial⟩
      · exact Gives.plain (v := .slice (some ad) 1 cl) (w' := wq) (by kernel_rfl) rfl hI
      · skip
        exact Gives.plain (v := .pointer (some (ad.add (0 * 3)))) (w' := wq) (by simp [go_sem]) rfl hI
      · have hW : Below w4.heap.size w4 wq := hI
        have q0 := (hW.cell (p := ad) (by exact Had.out)).trans d0
        have q1 := (hW.cell (p := ⟨ad.block, ad.off + 1, none⟩) (by show ad.block < _; exact Had.out)).trans d1
        have q2 := (hW.cell (p := ⟨ad.block, ad.off + 2, none⟩) (by show ad.block < _; exact Had.out)).trans d2
        exact Gives.plain (v := .agg (rdC a.rule a.at_ A1 a.kids.length k1)) (w' := wq) (by simp [go_sem, q0, q1, q2]) rfl hI
      · have hW : Below w4.heap.size w4 wq := hI
        have cJ := fun i => (keep hW K1.out).cell i
        exact Gives.plain (v := .agg (rdC x.rule x.at_ A' x.kids.length cap')) (w' := wq) (by simp [go_sem, cJ]) rfl hI
      · have hW : Below w4.heap.size w4 wq := hI
        refine Gives.call (f := 15) (args := #[.agg (rdC a.rule a.at_ A1 a.kids.length k1), .agg (rdC x.rule x.at_ A' x.kids.length cap')]) (w' := wq) (by kernel_rfl) ((same_any _ _ (sizeR a) a x _ _ wq (Nat.le_refl _) (HAC.out.keep hW) (HX.out.keep hW)).mono ?_)
        rintro e wa ⟨rfl, hb5⟩
        exact ⟨_, rfl, (), by rw [HSS.out]; rfl, KeepsV.same, Below.trans hW (hb5.mono (Below.size hW))⟩
      · exact Gives.plain (v := .bool true) (w' := wq) (by kernel_rfl) rfl hI
    · intro gx wq hI
      have hW : Below w4.heap.size w4 wq := hI
      clear hI
      have HB := Lib.hid (HB.out.trans (hW.mono HB.out.size))
      go_wp2_with fail
      go_ret
      exact ⟨rfl, HB.out⟩
  | [a, b], k1, k2, HL, HX0, HX1, HX2, HXL =>
    obtain ⟨l, hA⟩ := HX2.out a b rfl
    have HO := Lib.hid (order_all hA)
    clear HX0 HX1 HX2 HXL hA
    obtain ⟨ad, A1, k1, rfl, had, hac, _, _, _, d0, d1, d2⟩ := HL.out.at_ (show ([a, b])[0]? = some a from rfl)
    simp only [Nat.zero_mul, Addr.add_zero'] at d0 d1 d2
    have Had := Lib.hid had
    have HAC := Lib.hid hac
    clear had hac
    obtain ⟨_, B1, k3, e9, _, hbc, _, _, _, f0, f1, f2⟩ := HL.out.at_ (show ([a, b])[1]? = some b from rfl)
    obtain rfl := Option.some.inj e9
    simp only [Nat.one_mul] at f0 f1 f2
    have HBC := Lib.hid hbc
    clear hbc e9
    go_upto_region 6 with (fail)
    refine region_ghost (X := Unit) (by kernel_rfl) _ (fun gx => [.bool true, .bool true, .slice (some ad) 2 cl, .int .i64 2, .bool false, .bool false, .slice (some ad) 2 cl, .pointer (some (ad.add (0 * 3))), .agg (rdC a.rule a.at_ A1 a.kids.length k1), .slice (some ad) 2 cl, .pointer (some (ad.add (1 * 3))), .agg (rdC b.rule b.at_ B1 b.kids.length k3), .int .i64 (-1), .bool false, .bool false, .bool false]) [true, true, true, true, true, true, true, true, true, true, true, true, true, true, true, true] [] (InvB w3) () (by kernel_rfl) (fun gx => by simp [fin, finOn, dstAt, List.range, List.range.loop, Act.put]; rfl) (fun _ => by kernel_rfl) (by kernel_rfl) (below_drew (Below.refl _ _)) ?_ ?_
    · refine ⟨fun L gx wq hL hb ha hI => ?_, fun L gx wq hL hb ha hI => ?_, fun L gx wq hL hb ha hI => ?_, fun L gx wq hL hb ha hI => ?_, fun L gx wq hL hb ha hI => ?_, fun L gx wq hL hb ha hI => ?_, fun L gx wq hL hb ha hI => ?_, fun L gx wq hL hb ha hI => ?_, fun L gx wq hL hb ha hI => ?_, fun L gx wq hL hb ha hI => ?_, fun L gx wq hL hb ha hI => ?_, fun L gx wq hL hb ha hI => ?_, fun L gx wq hL hb ha hI => ?_, fun L gx wq hL hb ha hI => ?_, fun L gx wq hL hb ha hI => ?_, fun L gx wq hL hb ha hI => ?_, trivial⟩
      · exact Gives.plain (v := .bool true) (w' := wq) (by kernel_rfl) rfl hI
      · exact Gives.plain (v := .bool true) (w' := wq) (by kernel_rfl) rfl hI
      · exact Gives.plain (v := .slice (some ad) 2 cl) (w' := wq) (by kernel_rfl) rfl hI
      · exact Gives.plain (v := .int .i64 2) (w' := wq) (by simp [go_sem]) rfl hI
      · exact Gives.plain (v := .bool false) (w' := wq) (by simp [go_sem]) rfl hI
      · exact Gives.plain (v := .bool false) (w' := wq) (by kernel_rfl) rfl hI
      · exact Gives.plain (v := .slice (some ad) 2 cl) (w' := wq) (by kernel_rfl) rfl hI
      · skip
        exact Gives.plain (v := .pointer (some (ad.add (0 * 3)))) (w' := wq) (by simp [go_sem]) rfl hI
      · have hW : Below w3.heap.size w3 wq := hI
        have q0 := (hW.cell (p := ad) (by exact Had.out)).trans d0
        have q1 := (hW.cell (p := ⟨ad.block, ad.off + 1, none⟩) (by show ad.block < _; exact Had.out)).trans d1
        have q2 := (hW.cell (p := ⟨ad.block, ad.off + 2, none⟩) (by show ad.block < _; exact Had.out)).trans d2
        exact Gives.plain (v := .agg (rdC a.rule a.at_ A1 a.kids.length k1)) (w' := wq) (by simp [go_sem, q0, q1, q2]) rfl hI
      · exact Gives.plain (v := .slice (some ad) 2 cl) (w' := wq) (by kernel_rfl) rfl hI
      · skip
        exact Gives.plain (v := .pointer (some (ad.add (1 * 3)))) (w' := wq) (by simp [go_sem]) rfl hI
      · have hW : Below w3.heap.size w3 wq := hI
        have q0 := (hW.cell (p := ⟨ad.block, ad.off + 3, none⟩) (by show ad.block < _; exact Had.out)).trans f0
        have q1 := (hW.cell (p := ⟨ad.block, ad.off + 3 + 1, none⟩) (by show ad.block < _; exact Had.out)).trans f1
        have q2 := (hW.cell (p := ⟨ad.block, ad.off + 3 + 2, none⟩) (by show ad.block < _; exact Had.out)).trans f2
        exact Gives.plain (v := .agg (rdC b.rule b.at_ B1 b.kids.length k3)) (w' := wq) (by simp [go_sem, q0, q1, q2]) rfl hI
      · have hW : Below w3.heap.size w3 wq := hI
        refine Gives.call (f := 17) (args := #[.agg (rdC a.rule a.at_ A1 a.kids.length k1), .agg (rdC b.rule b.at_ B1 b.kids.length k3)]) (w' := wq) (by kernel_rfl) ((rcmp_any _ _ (sizeR a) a b _ _ wq (Nat.le_refl _) (HAC.out.keep hW) (HBC.out.keep hW)).mono ?_)
        rintro e wa ⟨rfl, hb5⟩
        exact ⟨_, rfl, (), by rw [HO.out.1]; rfl, KeepsV.same, Below.trans hW (hb5.mono (Below.size hW))⟩
      · exact Gives.plain (v := .bool false) (w' := wq) (by simp [go_sem]) rfl hI
      · exact Gives.plain (v := .bool false) (w' := wq) (by kernel_rfl) rfl hI
      · exact Gives.plain (v := .bool false) (w' := wq) (by kernel_rfl) rfl hI
    · intro gx wq hI
      have hb : Below w3.heap.size w3 wq := hI
      clear hI d0 d1 d2 f0 f1 f2 Had HAC HBC
      have HB := Lib.hid (HB.out.trans (hb.mono HB.out.size))
      have HR := Lib.hid (HR.out.keep hb)
      have HT := Lib.hid (HT.out.keep hb)
      have HX := Lib.hid (HX.out.keep hb)
      have HL := Lib.hid (HL.out.keep hb)
      have K1 := Lib.hid (keep hb K1.out)
      clear hb
      have c0 := K1.out.cell 0
      have c1 := K1.out.cell 1
      have c2 := K1.out.cell 2
      go_wp2_with fail
      refine (rcheck_any A T cap cT rs ts (fun _ => True) x _ _ HR.out HT.out HX.out (by have := L1.out.1; omega) (by have := L1.out.2; omega)).mono ?_
      rintro e w4 ⟨rfl, hb⟩
      have HB := Lib.hid (HB.out.trans (hb.mono HB.out.size))
      have HR := Lib.hid (HR.out.keep hb)
      have HT := Lib.hid (HT.out.keep hb)
      have HX := Lib.hid (HX.out.keep hb)
      have HL := Lib.hid (HL.out.keep hb)
      have K1 := Lib.hid (keep hb K1.out)
      clear hb
      clear c0 c1 c2
      cases hq : rchkB rs ts x
      · go_wp2_with fail
        go_ret
        exact ⟨rfl, HB.out⟩
      have HXA := Lib.hid (HO.out.2 x (rchk_all.1 hq))
      clear hq
      obtain ⟨ad, A1, k1, e8, had, hac, _, _, _, d0, d1, d2⟩ := HL.out.at_ (show ([a, b])[0]? = some a from rfl)
      obtain rfl := Option.some.inj e8
      simp only [Nat.zero_mul, Addr.add_zero'] at d0 d1 d2
      have Had := Lib.hid had
      have HAC := Lib.hid hac
      clear had hac
      obtain ⟨_, B1, k3, e9, _, hbc, _, _, _, f0, f1, f2⟩ := HL.out.at_ (show ([a, b])[1]? = some b from rfl)
      obtain rfl := Option.some.inj e9
      simp only [Nat.one_mul] at f0 f1 f2
      have HBC := Lib.hid hbc
      clear hbc e9
      go_upto_region 14 with (fail)
      cases hs : sameR a x
      · have HLE := Lib.hid (show cmpR b x ≤ 0 by
          rcases HXA.out with h | h
          · rw [(same_iff a x).2 h.symm] at hs; cases hs
          · exact h)
        have s1 : decide (cmpR b x ≤ 0) = true := decide_eq_true HLE.out
        refine region_ghost (X := Unit) (by kernel_rfl) _ (fun gx => [.slice (some ad) 2 cl, .pointer (some (ad.add (0 * 3))), .agg (rdC a.rule a.at_ A1 a.kids.length k1), .agg (rdC x.rule x.at_ A' x.kids.length cap'), .bool false, .bool false, .slice (some ad) 2 cl, .pointer (some (ad.add (1 * 3))), .agg (rdC b.rule b.at_ B1 b.kids.length k3), .agg (rdC x.rule x.at_ A' x.kids.length cap'), .int .i64 (cmpR b x), .bool true, .bool true, .bool true]) [true, true, true, true, true, true, true, true, true, true, true, true, true, true] [] (InvB w4) () (by kernel_rfl) (fun gx => by simp [fin, finOn, dstAt, List.range, List.range.loop, Act.put]; rfl) (fun _ => by kernel_rfl) (by kernel_rfl) (below_drew (Below.refl _ _)) ?_ ?_
        · refine ⟨fun L gx wq hL hb ha hI => ?_, fun L gx wq hL hb ha hI => ?_, fun L gx wq hL hb ha hI => ?_, fun L gx wq hL hb ha hI => ?_, fun L gx wq hL hb ha hI => ?_, fun L gx wq hL hb ha hI => ?_, fun L gx wq hL hb ha hI => ?_, fun L gx wq hL hb ha hI => ?_, fun L gx wq hL hb ha hI => ?_, fun L gx wq hL hb ha hI => ?_, fun L gx wq hL hb ha hI => ?_, fun L gx wq hL hb ha hI => ?_, fun L gx wq hL hb ha hI => ?_, fun L gx wq hL hb ha hI => ?_, trivial⟩
          · exact Gives.plain (v := .slice (some ad) 2 cl) (w' := wq) (by kernel_rfl) rfl hI
          · skip
            exact Gives.plain (v := .pointer (some (ad.add (0 * 3)))) (w' := wq) (by simp [go_sem]) rfl hI
          · have hW : Below w4.heap.size w4 wq := hI
            have q0 := (hW.cell (p := ad) (by exact Had.out)).trans d0
            have q1 := (hW.cell (p := ⟨ad.block, ad.off + 1, none⟩) (by show ad.block < _; exact Had.out)).trans d1
            have q2 := (hW.cell (p := ⟨ad.block, ad.off + 2, none⟩) (by show ad.block < _; exact Had.out)).trans d2
            exact Gives.plain (v := .agg (rdC a.rule a.at_ A1 a.kids.length k1)) (w' := wq) (by simp [go_sem, q0, q1, q2]) rfl hI
          · have hW : Below w4.heap.size w4 wq := hI
            have cJ := fun i => (keep hW K1.out).cell i
            exact Gives.plain (v := .agg (rdC x.rule x.at_ A' x.kids.length cap')) (w' := wq) (by simp [go_sem, cJ]) rfl hI
          · have hW : Below w4.heap.size w4 wq := hI
            refine Gives.call (f := 15) (args := #[.agg (rdC a.rule a.at_ A1 a.kids.length k1), .agg (rdC x.rule x.at_ A' x.kids.length cap')]) (w' := wq) (by kernel_rfl) ((same_any _ _ (sizeR a) a x _ _ wq (Nat.le_refl _) (HAC.out.keep hW) (HX.out.keep hW)).mono ?_)
            rintro e wa ⟨rfl, hb5⟩
            exact ⟨_, rfl, (), by rw [hs]; rfl, KeepsV.same, Below.trans hW (hb5.mono (Below.size hW))⟩
          · exact Gives.plain (v := .bool false) (w' := wq) (by kernel_rfl) rfl hI
          · exact Gives.plain (v := .slice (some ad) 2 cl) (w' := wq) (by kernel_rfl) rfl hI
          · skip
            exact Gives.plain (v := .pointer (some (ad.add (1 * 3)))) (w' := wq) (by simp [go_sem]) rfl hI
          · have hW : Below w4.heap.size w4 wq := hI
            have q0 := (hW.cell (p := ⟨ad.block, ad.off + 3, none⟩) (by show ad.block < _; exact Had.out)).trans f0
            have q1 := (hW.cell (p := ⟨ad.block, ad.off + 3 + 1, none⟩) (by show ad.block < _; exact Had.out)).trans f1
            have q2 := (hW.cell (p := ⟨ad.block, ad.off + 3 + 2, none⟩) (by show ad.block < _; exact Had.out)).trans f2
            exact Gives.plain (v := .agg (rdC b.rule b.at_ B1 b.kids.length k3)) (w' := wq) (by simp [go_sem, q0, q1, q2]) rfl hI
          · have hW : Below w4.heap.size w4 wq := hI
            have cJ := fun i => (keep hW K1.out).cell i
            exact Gives.plain (v := .agg (rdC x.rule x.at_ A' x.kids.length cap')) (w' := wq) (by simp [go_sem, cJ]) rfl hI
          · have hW : Below w4.heap.size w4 wq := hI
            refine Gives.call (f := 17) (args := #[.agg (rdC b.rule b.at_ B1 b.kids.length k3), .agg (rdC x.rule x.at_ A' x.kids.length cap')]) (w' := wq) (by kernel_rfl) ((rcmp_any _ _ (sizeR b) b x _ _ wq (Nat.le_refl _) (HBC.out.keep hW) (HX.out.keep hW)).mono ?_)
            rintro e wa ⟨rfl, hb5⟩
            exact ⟨_, rfl, (), rfl, KeepsV.same, Below.trans hW (hb5.mono (Below.size hW))⟩
          · skip
            exact Gives.plain (v := .bool true) (w' := wq) (by simp [go_sem, s1]) rfl hI
          · exact Gives.plain (v := .bool true) (w' := wq) (by kernel_rfl) rfl hI
          · exact Gives.plain (v := .bool true) (w' := wq) (by kernel_rfl) rfl hI
        · intro gx wq hI
          have hW : Below w4.heap.size w4 wq := hI
          clear hI
          have HB := Lib.hid (HB.out.trans (hW.mono HB.out.size))
          go_wp2_with fail
          go_ret
          exact ⟨rfl, HB.out⟩
      · skip
        refine region_ghost (X := Unit) (by kernel_rfl) _ (fun gx => [.slice (some ad) 2 cl, .pointer (some (ad.add (0 * 3))), .agg (rdC a.rule a.at_ A1 a.kids.length k1), .agg (rdC x.rule x.at_ A' x.kids.length cap'), .bool true, .bool true, undef, undef, undef, undef, undef, undef, .bool true, .bool true]) [true, true, true, true, true, true, false, false, false, false, false, false, true, true] [] (InvB w4) () (by kernel_rfl) (fun gx => by simp [fin, finOn, dstAt, List.range, List.range.loop, Act.put]; rfl) (fun _ => by kernel_rfl) (by kernel_rfl) (below_drew (Below.refl _ _)) ?_ ?_
        · refine ⟨fun L gx wq hL hb ha hI => ?_, fun L gx wq hL hb ha hI => ?_, fun L gx wq hL hb ha hI => ?_, fun L gx wq hL hb ha hI => ?_, fun L gx wq hL hb ha hI => ?_, fun L gx wq hL hb ha hI => ?_, ⟨fun _ => rfl, fun L x wq hI => hI⟩, ⟨fun _ => rfl, fun L x wq hI => hI⟩, ⟨fun _ => rfl, fun L x wq hI => hI⟩, ⟨fun _ => rfl, fun L x wq hI => hI⟩, ⟨fun _ => rfl, fun L x wq hI => hI⟩, ⟨fun _ => rfl, fun L x wq hI => hI⟩, fun L gx wq hL hb ha hI => ?_, fun L gx wq hL hb ha hI => ?_, trivial⟩
          · exact Gives.plain (v := .slice (some ad) 2 cl) (w' := wq) (by kernel_rfl) rfl hI
          · skip
            exact Gives.plain (v := .pointer (some (ad.add (0 * 3)))) (w' := wq) (by simp [go_sem]) rfl hI
          · have hW : Below w4.heap.size w4 wq := hI
            have q0 := (hW.cell (p := ad) (by exact Had.out)).trans d0
            have q1 := (hW.cell (p := ⟨ad.block, ad.off + 1, none⟩) (by show ad.block < _; exact Had.out)).trans d1
            have q2 := (hW.cell (p := ⟨ad.block, ad.off + 2, none⟩) (by show ad.block < _; exact Had.out)).trans d2
            exact Gives.plain (v := .agg (rdC a.rule a.at_ A1 a.kids.length k1)) (w' := wq) (by simp [go_sem, q0, q1, q2]) rfl hI
          · have hW : Below w4.heap.size w4 wq := hI
            have cJ := fun i => (keep hW K1.out).cell i
            exact Gives.plain (v := .agg (rdC x.rule x.at_ A' x.kids.length cap')) (w' := wq) (by simp [go_sem, cJ]) rfl hI
          · have hW : Below w4.heap.size w4 wq := hI
            refine Gives.call (f := 15) (args := #[.agg (rdC a.rule a.at_ A1 a.kids.length k1), .agg (rdC x.rule x.at_ A' x.kids.length cap')]) (w' := wq) (by kernel_rfl) ((same_any _ _ (sizeR a) a x _ _ wq (Nat.le_refl _) (HAC.out.keep hW) (HX.out.keep hW)).mono ?_)
            rintro e wa ⟨rfl, hb5⟩
            exact ⟨_, rfl, (), by rw [hs]; rfl, KeepsV.same, Below.trans hW (hb5.mono (Below.size hW))⟩
          · exact Gives.plain (v := .bool true) (w' := wq) (by kernel_rfl) rfl hI
          · exact Gives.plain (v := .bool true) (w' := wq) (by kernel_rfl) rfl hI
          · exact Gives.plain (v := .bool true) (w' := wq) (by kernel_rfl) rfl hI
        · intro gx wq hI
          have hW : Below w4.heap.size w4 wq := hI
          clear hI
          have HB := Lib.hid (HB.out.trans (hW.mono HB.out.size))
          go_wp2_with fail
          go_ret
          exact ⟨rfl, HB.out⟩
  | a :: b :: d :: l, k1, k2, HL, HX0, HX1, HX2, HXL => have := HXL.out; simp at this
end Go.Proofs.Ytmhddlhlniajpaa
