/- ChartRead: the walk. -/
import Derived.Test.YtmhddlhlniajpaaFT
import Derived.Test.YtmhddlhlniajpaaOS
namespace Go.Proofs.Ytmhddlhlniajpaa
open Go.RowKit
set_option maxRecDepth 100000 in
set_option maxHeartbeats 4000000 in
theorem chread_walk (A T : Option Addr) (cap cT : Nat) (rs : List Rul) (ts : List ByteArray) (w : World) (hR : RulsAt w A rs) (hT : ToksAt w T ts) (hl0 : rs.length ≤ cap) (hm0 : cap ≤ 9223372036854775807) (hl1 : ts.length ≤ cT) (hm1 : cT ≤ 9223372036854775807) : Calls Try.prog 3 #[.slice A rs.length cap, .slice T ts.length cT] w fun e w' => e = .returned (.bool true) ∧ Below w.heap.size w w' := by
  obtain ⟨i0, hi, hz0, hz1, hz2⟩ := info_parts info_str
  have HFIT := Lib.hid (show ∀ s ∈ ts, s.size ≤ 9223372036854775807 from fun s hs => by
    obtain ⟨i, hi⟩ := List.mem_iff_getElem?.1 hs
    exact (hT i s hi).1)
  have HR := Lib.hid hR
  have HT := Lib.hid hT
  have hrl : rs.length ≤ 9223372036854775807 := by omega
  have htl : ts.length ≤ 9223372036854775807 := by omega
  clear hR hT
  go_enter Try.func3, Try.ntmps3
  go_wp2_with fail
  refine (awake_any _).mono ?_
  rintro e w1 ⟨rfl, hb⟩
  have HB := Lib.hid hb
  have HR := Lib.hid (HR.out.keep hb)
  have HT := Lib.hid (HT.out.keep hb)
  clear hb
  go_wp2_with fail
  refine (short_any A T cap cT rs ts 6 _ HR.out HT.out hrl htl).mono ?_
  rintro e w2 ⟨rfl, rfl⟩
  cases q1 : shortB rs ts 6
  · go_wp2_with fail
    go_ret
    exact ⟨rfl, HB.out⟩
  have L1 := Lib.hid (short_of q1)
  have hln : ts.length ≤ 6 := by have := L1.out.2; omega
  clear q1
  have hba := bel_alloc w1 (.cells #[] 9)
  have ho : World.ownsRow (w1.alloc (.cells #[] 9)) w1.heap.size 9 1 (.slice (some ⟨w1.heap.size, 0, none⟩) 0 0) 0 [] := ⟨rfl, .inr ⟨w1.heap.size, 0, #[], rfl, Nat.le_refl _, Blk.new w1 _ _, Nat.le_refl _, by unfold maxLen; omega, rfl, rfl⟩⟩
  have hrd := reads_toks (HT.out.keep hba) (k := ts.length) (Nat.le_refl _)
  rw [List.take_of_length_le (Nat.le_refl _)] at hrd
  have HBA := Lib.hid hba
  clear hba
  go_wp2_with (at_builtin; refine wpList_append_any _ rfl (.tmp 19) (.tmp 20) 23 rfl w1.heap.size 9 i0 (.string ⟨#[]⟩) 1 16 Try.underlying23 hi hz0 hz1 hz2 rfl (by decide) _ 0 [] rfl ho _ T ts.length cT (ts.map Value.string) rfl hrd strs_one (by unfold maxLen; omega) (by omega) HBA.out.size ?_); intro v' w' g2 g3 g4
  have ho9 : OwnS w' w1.heap.size v' ts := by
    have h9 := OwnS.snoc (ts := []) (us := ts) rfl (by simpa using g2)
    exact h9
  obtain ⟨A9, c9, rfl, hc9, hd9, ht9⟩ := ho9.form HFIT.out
  have hbw := HBA.out.grown g3 HBA.out.size fun b hb => by
    obtain rfl : w1.heap.size = b := by simpa [Value.ownBlock] using hb
    exact Nat.le_refl _
  have HT9 := Lib.hid ht9
  have HR := Lib.hid (HR.out.keep hbw)
  have HT := Lib.hid (HT.out.keep hbw)
  have HB := Lib.hid (HB.out.trans (hbw.mono HB.out.size))
  clear ho g2 g3 g4 ho9 ht9 hbw hrd HBA hc9 hd9
  go_wp2_with fail
  refine (read_any A A9 cap c9 rs ts _ HR.out HT9.out hl0 hm0).mono ?_
  rintro e w3 ⟨L, cl, rfl, k1, k2, hrd, hb⟩
  rw [readL_all] at k1 hrd
  rw [List.length_take] at k1
  rw [readL_all, List.length_take]
  generalize hn2 : min 2 (allL rs ts).length = n2 at k1 ⊢
  have HN2 := Lib.hid hn2
  clear hn2
  have HL := Lib.hid hrd
  have HR := Lib.hid (HR.out.keep hb)
  have HT := Lib.hid (HT.out.keep hb)
  have HB := Lib.hid (HB.out.trans (hb.mono HB.out.size))
  clear hb hrd HT9
  go_wp2_with fail
  refine (rAll_any A T cap cT rs ts _ HR.out HT.out L1.out.1 hln).mono ?_
  rintro e w4 ⟨M, cm, rfl, hrm, hb⟩
  have HM := Lib.hid hrm
  have HL := Lib.hid (HL.out.keep hb)
  have HB := Lib.hid (HB.out.trans (hb.mono HB.out.size))
  have HXL := Lib.hid (allL_len (rs := rs) (ts := ts) L1.out.1 hln)
  clear hb hrm HR HT HFIT
  generalize allL rs ts = X at *
  generalize okI rs ts = o at *
  have xl : X.length ≤ 1376256 := HXL.out
  have h2n := HN2.out
  have e40 : (min 2 (X.length : Int) == 2) = decide ((2 : Int) ≤ (X.length : Int)) := by rw [Bool.eq_iff_iff, beq_iff_eq, decide_eq_true_iff]; omega
  have e48 : (n2 : Int) = min 2 (X.length : Int) := by omega
  have h2l : n2 ≤ X.length := by omega
  clear h2n
  go_wp2_with fail
  clear e40 e48
  go_loopw [10] (fun v wr => ∃ k : Nat, k ≤ n2 ∧ v = .int .i64 k ∧ Hid (RdsAt (fun _ => True) wr L (X.take 2)) ∧ Hid (RdsAt (fun _ => True) wr M X) ∧ Hid (Below w.heap.size w wr)) (fun v _ => n2 - (intOf v).toNat)
  case atStart => exact ⟨0, by omega, rfl, Lib.hid (HL.out.any fun _ _ _ => trivial), Lib.hid (HM.out.any fun _ _ _ => trivial), HB⟩
  case round =>
    clear HL HM HB
    obtain ⟨k, hk, rfl, HL, HM, HB⟩ := hrel
    by_cases hlt : k < n2
    · obtain ⟨x, hx⟩ : ∃ x, X[k]? = some x := ⟨_, List.getElem?_eq_getElem (by omega)⟩
      obtain ⟨ad, A1, k1, rfl, had, hxc, _, _, _, d0, d1, d2⟩ := HL.out.at_ (show (X.take 2)[k]? = some x by rw [List.getElem?_take, if_pos (by have := HN2.out; omega)]; exact hx)
      obtain ⟨bd, B1, k2, rfl, hbd, hyc, _, _, _, f0, f1, f2⟩ := HM.out.at_ hx
      have HXC := Lib.hid hxc
      have HYC := Lib.hid hyc
      have Had := Lib.hid had
      have Hbd := Lib.hid hbd
      have HSS := Lib.hid ((same_iff x x).2 rfl)
      have j1 : (0 : Int) ≤ (k : Int) := by omega
      have j2 : (k : Int) < (n2 : Int) := by omega
      have j3 : (k : Int) < (X.length : Int) := by omega
      clear hx hxc hyc had hbd
      go_upto_region 12 with (fail)
      refine region_ghost (X := Unit) (by kernel_rfl) _ (fun gx => [.slice (some ad) n2 cl, .int .i64 (↑k), .pointer (some (ad.add (k * 3))), .agg (rdC x.rule x.at_ A1 x.kids.length k1), .slice (some bd) X.length cm, .int .i64 (↑k), .pointer (some (bd.add (k * 3))), .agg (rdC x.rule x.at_ B1 x.kids.length k2), .bool true, .bool false]) [true, true, true, true, true, true, true, true, true, true] [] (InvB wr) () (by kernel_rfl) (fun gx => by simp [fin, finOn, dstAt, List.range, List.range.loop, Act.put]; rfl) (fun _ => by kernel_rfl) (by kernel_rfl) (below_drew (Below.refl _ _)) ?_ ?_
      · refine ⟨fun L gx wq hL hb ha hI => ?_, fun L gx wq hL hb ha hI => ?_, fun L gx wq hL hb ha hI => ?_, fun L gx wq hL hb ha hI => ?_, fun L gx wq hL hb ha hI => ?_, fun L gx wq hL hb ha hI => ?_, fun L gx wq hL hb ha hI => ?_, fun L gx wq hL hb ha hI => ?_, fun L gx wq hL hb ha hI => ?_, fun L gx wq hL hb ha hI => ?_, trivial⟩
        · exact Gives.plain (v := .slice (some ad) n2 cl) (w' := wq) (by kernel_rfl) rfl hI
        · exact Gives.plain (v := .int .i64 (↑k)) (w' := wq) (by kernel_rfl) rfl hI
        · skip
          exact Gives.plain (v := .pointer (some (ad.add (k * 3)))) (w' := wq) (by simp [go_sem, j1, j2]; try omega) rfl hI
        · have hW : Below wr.heap.size wr wq := hI
          have e0 := (hW.cell (p := ad.add (k * 3)) (by rw [add_block]; exact Had.out)).trans d0
          have e1 := (hW.cell (p := ⟨(ad.add (k * 3)).block, (ad.add (k * 3)).off + 1, none⟩) (by show (ad.add (k * 3)).block < _; rw [add_block]; exact Had.out)).trans d1
          have e2 := (hW.cell (p := ⟨(ad.add (k * 3)).block, (ad.add (k * 3)).off + 2, none⟩) (by show (ad.add (k * 3)).block < _; rw [add_block]; exact Had.out)).trans d2
          exact Gives.plain (v := .agg (rdC x.rule x.at_ A1 x.kids.length k1)) (w' := wq) (by simp [go_sem, e0, e1, e2]) rfl hI
        · exact Gives.plain (v := .slice (some bd) X.length cm) (w' := wq) (by kernel_rfl) rfl hI
        · exact Gives.plain (v := .int .i64 (↑k)) (w' := wq) (by kernel_rfl) rfl hI
        · skip
          exact Gives.plain (v := .pointer (some (bd.add (k * 3)))) (w' := wq) (by simp [go_sem, j1, j3]; try omega) rfl hI
        · have hW : Below wr.heap.size wr wq := hI
          have e0 := (hW.cell (p := bd.add (k * 3)) (by rw [add_block]; exact Hbd.out)).trans f0
          have e1 := (hW.cell (p := ⟨(bd.add (k * 3)).block, (bd.add (k * 3)).off + 1, none⟩) (by show (bd.add (k * 3)).block < _; rw [add_block]; exact Hbd.out)).trans f1
          have e2 := (hW.cell (p := ⟨(bd.add (k * 3)).block, (bd.add (k * 3)).off + 2, none⟩) (by show (bd.add (k * 3)).block < _; rw [add_block]; exact Hbd.out)).trans f2
          exact Gives.plain (v := .agg (rdC x.rule x.at_ B1 x.kids.length k2)) (w' := wq) (by simp [go_sem, e0, e1, e2]) rfl hI
        · have hW : Below wr.heap.size wr wq := hI
          refine Gives.call (f := 15) (args := #[.agg (rdC x.rule x.at_ A1 x.kids.length k1), .agg (rdC x.rule x.at_ B1 x.kids.length k2)]) (w' := wq) (by kernel_rfl) ((same_any _ _ (sizeR x) x x _ _ wq (Nat.le_refl _) (HXC.out.keep hW) (HYC.out.keep hW)).mono ?_)
          rintro e wa ⟨rfl, hb5⟩
          exact ⟨_, rfl, (), by rw [HSS.out]; rfl, KeepsV.same, Below.trans hW (hb5.mono (Below.size hW))⟩
        · exact Gives.plain (v := .bool false) (w' := wq) (by simp [go_sem]) rfl hI
      · intro gx wq hI
        have hW : Below wr.heap.size wr wq := hI
        have HB := Lib.hid (HB.out.trans (hW.mono HB.out.size))
        have HL := Lib.hid (HL.out.keep hW)
        have HM := Lib.hid (HM.out.keep hW)
        clear hI hW d0 d1 d2 f0 f1 f2
        go_wp2_with fail
        go_roundw
        case rel => exact ⟨k + 1, by omega, by go_num, HL, HM, HB⟩
        case measure => simp [intOf]; omega
    · obtain rfl : k = n2 := by omega
      go_wp2_with fail
      go_ret
      exact ⟨rfl, HB.out⟩
end Go.Proofs.Ytmhddlhlniajpaa
