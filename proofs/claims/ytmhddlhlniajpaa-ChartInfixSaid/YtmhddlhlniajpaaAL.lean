/- The reference's list of all readings (under way). -/
import Derived.Test.YtmhddlhlniajpaaAB
namespace Go.Proofs.Ytmhddlhlniajpaa
open Go.RowKit
def AllP (rs : List Rul) (ts : List ByteArray) (i j : Nat) (w : World) (e : Ending) (w' : World) : Prop := ∃ v, e = .returned v ∧ AppR (fun b => w.heap.size ≤ b) w' w.heap.size v (allR rs ts i j) ∧ Below w.heap.size w w'
/-- the readings that the first n rules give -/
def preR (rs : List Rul) (ts : List ByteArray) (i j n : Nat) : List Rd := baseR ts i j ++ (List.range n).flatMap (ofRule rs ts (allR rs ts) i j)
theorem pre_zero {rs : List Rul} {ts : List ByteArray} {i j : Nat} : preR rs ts i j 0 = baseR ts i j := by unfold preR; simp
theorem pre_next {rs : List Rul} {ts : List ByteArray} {i j n : Nat} : preR rs ts i j (n + 1) = preR rs ts i j n ++ ofRule rs ts (allR rs ts) i j n := by
  unfold preR
  rw [List.range_succ, List.flatMap_append, List.append_assoc]
  simp
theorem most_all {rs : List Rul} (hr : rs.length ≤ 8) {ts : List ByteArray} (ht : ts.length ≤ 6) {i j : Nat} (hj : j ≤ ts.length) : (allR rs ts i j).length ≤ 1376256 := by
  have h := all_most hr (ts := ts) (j - i) i j rfl (by omega)
  have h2 : mostN.getD (j - i) 0 ≤ mostN.getD 6 0 := most_mono (by omega) (Nat.le_refl _)
  have h3 : mostN.getD 6 0 = 1376256 := rfl
  omega
theorem all_body {rs : List Rul} {ts : List ByteArray} {i j : Nat} (h : i < j) : allR rs ts i j = preR rs ts i j rs.length := by
  rw [all_eq h]
  rfl
theorem pre_len {rs : List Rul} {ts : List ByteArray} {i j n : Nat} (h : i < j) (hn : n ≤ rs.length) : (preR rs ts i j n).length ≤ (allR rs ts i j).length := by
  rw [all_body h]
  unfold preR
  rw [List.length_append, List.length_append]
  have : ((List.range n).flatMap (ofRule rs ts (allR rs ts) i j)).length ≤ ((List.range rs.length).flatMap (ofRule rs ts (allR rs ts) i j)).length := by
    rw [show rs.length = n + (rs.length - n) by omega, List.range_add, List.flatMap_append, List.length_append]
    omega
  omega
set_option maxRecDepth 100000 in
set_option maxHeartbeats 8000000 in
theorem rall_any (A T : Option Addr) (cap cT : Nat) (rs : List Rul) (ts : List ByteArray) (hr8 : rs.length ≤ 8) (ht6 : ts.length ≤ 6) : ∀ (m i j : Nat) (w : World), j - i ≤ m → j ≤ ts.length → RulsAt w A rs → ToksAt w T ts → Calls Try.prog 33 #[.slice A rs.length cap, .slice T ts.length cT, .int .i64 i, .int .i64 j] w (AllP rs ts i j w) := by
  obtain ⟨i0, hi, hz0, hz1, hz2⟩ := info_parts info_rd
  intro m
  induction m with
  | zero =>
    intro i j w hm hj hR hT
    have HE := Lib.hid (show allR rs ts i j = [] by unfold allR; rw [show j - i = 0 by omega]; rfl)
    have hij : (j : Int) ≤ (i : Int) := by omega
    clear hR hT hm hj
    go_enter Try.func33, Try.ntmps33
    go_wp2_with fail
    go_ret
    exact ⟨_, rfl, by rw [HE.out]; exact AppR.nil _ _ _, Below.refl _ _⟩
  | succ m ih =>
    intro i j w hm hj hR hT
    by_cases hij : j ≤ i
    · have HE := Lib.hid (show allR rs ts i j = [] by unfold allR; rw [show j - i = 0 by omega]; rfl)
      have hij : (j : Int) ≤ (i : Int) := by omega
      clear hR hT hm hj ih
      go_enter Try.func33, Try.ntmps33
      go_wp2_with fail
      go_ret
      exact ⟨_, rfl, by rw [HE.out]; exact AppR.nil _ _ _, Below.refl _ _⟩
    · have IH := Lib.hid ih
      have HR0 := Lib.hid hR
      have HT0 := Lib.hid hT
      have HIJ := Lib.hid (show i < j by omega)
      have HJ := Lib.hid hj
      have HM := Lib.hid hm
      obtain ⟨s, hs⟩ : ∃ s, ts[i]? = some s := ⟨_, List.getElem?_eq_getElem (by omega)⟩
      obtain ⟨hf, ad, rfl, hadl, c0⟩ := hT i s hs
      have HTB := Lib.hid (show tokB ts i opndL = (s.toList == opndL) by unfold tokB; rw [hs])
      have j1 : (0 : Int) ≤ (i : Int) := by omega
      have j2 : (i : Int) < (ts.length : Int) := by omega
      have j3 : (j : Int) ≤ 6 := by omega
      have j4 : (i : Int) < (j : Int) := by omega
      have HS := Lib.hid hs
      clear ih hR hT hm hj hs hf hadl hij
      go_enter Try.func33, Try.ntmps33
      have HBB := Lib.hid (show baseR ts i j = if (decide (j = i + 1) && (s.toList == [35])) = true then [.mk (-1) i []] else [] by
        unfold baseR
        rw [HTB.out]
        unfold opndL
        by_cases h1 : j = i + 1 <;> by_cases h2 : (s.toList == [35]) = true <;> simp [h1, h2])
      have e24 : ((j : Int) == (i : Int) + 1) = decide (j = i + 1) := by
        rw [Bool.eq_iff_iff, beq_iff_eq, decide_eq_true_iff]; omega
      go_upto_region 4 with (fail)
      go_cut [31] (fun b wc => b = .bool (decide (j = i + 1) && (s.toList == [35])) ∧ w = wc)
      case first =>
        by_cases h1 : j = i + 1
        · have e25 : ((j : Int) == (i : Int) + 1) = true := by rw [e24, decide_eq_true h1]
          have H1 := Lib.hid (decide_eq_true h1)
          clear h1 e24
          go_wp2_with fail
          go_meet
          case rel => exact ⟨by rw [H1.out, Bool.true_and], rfl⟩
        · have e25 : ((j : Int) == (i : Int) + 1) = false := by rw [e24, decide_eq_false h1]
          have H1 := Lib.hid (decide_eq_false h1)
          clear h1 e24
          go_wp2_with fail
          go_meet
          case rel => exact ⟨by rw [H1.out, Bool.false_and], rfl⟩
      case rest =>
        obtain ⟨rfl, rfl⟩ := hcut
        clear e24 c0
        go_upto_if 31 with (fail)
        go_cut [9] (fun v w1 => Hid (AppR (fun b => w.heap.size ≤ b) w1 w.heap.size v (preR rs ts i j 0)) ∧ Hid (Below w.heap.size w w1))
        case first =>
          cases hb : (decide (j = i + 1) && (s.toList == [35]))
          · rw [hb] at HBB
            have HZ := Lib.hid (show preR rs ts i j 0 = [] from pre_zero.trans HBB.out)
            clear hb
            go_wp2_with fail
            go_meet
            case rel => exact ⟨by rw [HZ.out]; exact AppR.nil (fun b => w.heap.size ≤ b) _ _, Below.refl _ _⟩
          · rw [hb] at HBB
            have HZ := Lib.hid (show preR rs ts i j 0 = [] ++ [.mk (-1) i []] from pre_zero.trans HBB.out)
            clear hb
            have hba := bel_alloc w (.cells (rdC (-1) i none 0 0) 34)
            have K6 := Lib.hid (Blk.new w 34 (rdC (-1) i none 0 0))
            have hE := RdAt.of (ok := fun b => (Value.slice none 0 0).ownBlock ≠ some b ∧ w.heap.size ≤ b) (w := w.alloc (.cells (rdC (-1) i none 0 0) 34)) (r := -1) (a := i) (ks := []) (A := none) (cap := 0) (Nat.le_refl _) (by omega) (RdsAt.nil _ _ _)
            have ho := AppR.nil (fun b => w.heap.size ≤ b) (w.alloc (.cells (rdC (-1) i none 0 0) 34)) w.heap.size
            obtain ⟨css, ho, hl, hrr⟩ := ho
            have HB := Lib.hid (hba)
            go_wp2_with (at_builtin; refine wpList_append_any _ rfl (.tmp 32) (.tmp 35) 26 rfl w.heap.size 34 i0 (.agg #[.int .i64 0, .int .i64 0, .slice none 0 0]) 3 40 Try.underlying26 hi hz0 hz1 hz2 rfl (by decide) _ _ _ rfl ho (w.heap.size + 1) (some ⟨w.heap.size, 0, none⟩) 1 1 (rdC (-1) i none 0 0).toList rfl (by have := reads_agg K6.out rfl; rw [World.size_alloc] at this; exact this) (rd_one hE) (by unfold maxLen; simp) (by simp) HB.out.size ?_; intro v' w' g2 g3 g4)
            have HO := Lib.hid (AppR.push hl hrr hE g2 g3 g4)
            rw [← HZ.out] at HO
            have HB := Lib.hid (HB.out.grown g3 HB.out.size fun b hb => by cases hb)
            clear ho hl hrr g2 g3 g4 hE hba
            go_wp2_with fail
            go_meet
            case rel => exact ⟨HO, HB⟩
        case rest =>
          obtain ⟨HO, HB⟩ := hcut
          clear HBB HTB
          go_wp2_with fail
          go_loopw [9, 10] (fun v t wr => ∃ n : Nat, n ≤ rs.length ∧ t = .int .i64 n ∧ Hid (AppR (fun b => w.heap.size ≤ b) wr w.heap.size v (preR rs ts i j n)) ∧ Hid (Below w.heap.size w wr)) (fun _ t _ => rs.length - (intOf t).toNat)
          case atStart => exact ⟨0, by omega, rfl, HO, HB⟩
          case round =>
            clear HO HB
            obtain ⟨n, hn, rfl, HO, HB⟩ := hrel
            by_cases hlt : n < rs.length
            · obtain ⟨u, hu⟩ : ∃ u, rs[n]? = some u := ⟨_, List.getElem?_eq_getElem hlt⟩
              obtain ⟨_, ad2, rfl, hadl9, d0, d1, d2, d3, d4, d5⟩ := (HR0.out.keep HB.out).at_ hu
              have HU := Lib.hid hu
              have HPN := Lib.hid (pre_next (rs := rs) (ts := ts) (i := i) (j := j) (n := n))
              clear hadl9
              clear hu
              go_upto_region 10 with (fail)
              have hba := bel_alloc wr (.cells u.c 41)
              have KU := Lib.hid (Blk.new wr 41 u.c)
              have HXG := Lib.hid (show w.heap.size ≤ wr.heap.size from HB.out.size)
              have HFAR := Lib.hid (show u9.ownBlock ≠ some wr.heap.size from fun e => by have := (AppR.lt HO.out _ e).2; omega)
              have HO := Lib.hid (HO.out.keep hba)
              have HB := Lib.hid (HB.out.trans (hba.mono HB.out.size))
              clear hba d0 d1 d2 d3 d4 d5
              generalize wr.alloc (.cells #[.int .i64 u.kind, .string u.sym, .string u.nam, .int .i64 u.prec, .int .i64 u.left, .int .i64 u.right] 41) = w5 at *
              have k0 := KU.out.cell 0
              generalize wr.heap.size = g0 at *
              by_cases q1 : u.kind = 1
              · have HN := Lib.hid (rule_in (ts := ts) (i := i) (j := j) HU.out q1)
                have b1 : (u.kind == 1) = true := beq_iff_eq.2 q1
                have HZ := Lib.hid (show preR rs ts i j n = preR rs ts i j n ++ (List.range' (i + 1) 0).flatMap (inG rs ts i j n u) by simp)
                rw [HZ.out] at HO
                clear q1
                go_wp2_with fail
                go_loopw [9, 12] (fun v t wr => ∃ m9 : Nat, m9 ≤ j - 1 - (i + 1) ∧ t = .int .i64 ((i + 1 + m9 : Nat) : Int) ∧ Hid (AppR (fun b => w.heap.size ≤ b) wr w.heap.size v (preR rs ts i j n ++ (List.range' (i + 1) m9).flatMap (inG rs ts i j n u))) ∧ Hid (Below w.heap.size w wr) ∧ Hid (Blk wr g0 41 u.c) ∧ Hid (v.ownBlock ≠ some g0)) (fun _ t _ => j - (intOf t).toNat)
                case atStart => exact ⟨0, by omega, rfl, HO, HB, KU, HFAR⟩
                case round =>
                  clear HO HB KU HFAR
                  obtain ⟨m9, hm9, rfl, HO, HB, HK, HF⟩ := hrel
                  by_cases hlk : m9 < j - 1 - (i + 1)
                  · obtain ⟨s2, hs2⟩ : ∃ s2, ts[i + 1 + m9]? = some s2 := ⟨_, List.getElem?_eq_getElem (by have := HJ.out; omega)⟩
                    obtain ⟨hf2, ad3, e3, hadl3, c0⟩ := (HT0.out.keep HB.out) (i + 1 + m9) s2 hs2
                    obtain rfl := Option.some.inj e3
                    have c1 := HK.out.cell 1
                    have j5 : ((i + 1 + m9 : Nat) : Int) < (j : Int) - 1 := by omega
                    have j6 : ((i + 1 + m9 : Nat) : Int) < (ts.length : Int) := by have := HJ.out; omega
                    have j7 : (0 : Int) ≤ ((i + 1 + m9 : Nat) : Int) := by omega
                    have HTK := Lib.hid (show tokB ts (i + 1 + m9) u.sym.toList = (s2.toList == u.sym.toList) by unfold tokB; rw [hs2])
                    clear hs2 e3 hf2 hadl3
                    go_upto_region 15 with (fail)
                    go_quiet (fail)
                    have HO := Lib.hid (HO.out.keep (below_drewN (Below.refl _ _) nq))
                    have HB := Lib.hid (below_drewN HB.out nq)
                    have HK := Lib.hid (Blk.drewN HK.out nq)
                    generalize wr.drewN nq = w7 at *
                    clear c0 c1 j6
                    cases hbq : (s2.toList == u.sym.toList)
                    · have HPT := Lib.hid (show preR rs ts i j n ++ (List.range' (i + 1) (m9 + 1)).flatMap (inG rs ts i j n u) = preR rs ts i j n ++ (List.range' (i + 1) m9).flatMap (inG rs ts i j n u) by rw [part_next]; unfold inG; rw [HTK.out, hbq]; simp)
                      rw [← HPT.out] at HO
                      go_wp2_with fail
                      go_roundw
                      case rel => exact ⟨m9 + 1, by omega, by go_num, HO, HB, HK, HF⟩
                      case measure => simp [intOf]; omega
                    · have HPT := Lib.hid (show preR rs ts i j n ++ (List.range' (i + 1) (m9 + 1)).flatMap (inG rs ts i j n u) = (preR rs ts i j n ++ (List.range' (i + 1) m9).flatMap (inG rs ts i j n u)) ++ (pairsR n i (leastR rs (allR rs ts i (i + 1 + m9)) u.left) (leastR rs (allR rs ts ((i + 1 + m9) + 1) j) u.right)) by rw [part_next, ← List.append_assoc, show inG rs ts i j n u (i + 1 + m9) = (pairsR n i (leastR rs (allR rs ts i (i + 1 + m9)) u.left) (leastR rs (allR rs ts ((i + 1 + m9) + 1) j) u.right)) from by unfold inG; rw [HTK.out, hbq, if_pos rfl]])
                      have HLN := Lib.hid (show (preR rs ts i j n ++ (List.range' (i + 1) m9).flatMap (inG rs ts i j n u)).length + (pairsR n i (leastR rs (allR rs ts i (i + 1 + m9)) u.left) (leastR rs (allR rs ts ((i + 1 + m9) + 1) j) u.right)).length ≤ 3000000000000 by
                        have h1 : (List.range' (i + 1) (m9 + 1)).flatMap (inG rs ts i j n u) = (List.range' (i + 1) m9).flatMap (inG rs ts i j n u) ++ (pairsR n i (leastR rs (allR rs ts i (i + 1 + m9)) u.left) (leastR rs (allR rs ts ((i + 1 + m9) + 1) j) u.right)) := by rw [part_next, show inG rs ts i j n u (i + 1 + m9) = (pairsR n i (leastR rs (allR rs ts i (i + 1 + m9)) u.left) (leastR rs (allR rs ts ((i + 1 + m9) + 1) j) u.right)) from by unfold inG; rw [HTK.out, hbq, if_pos rfl]]
                        have h2 := part_len (g := inG rs ts i j n u) (a := i + 1) (t := m9 + 1) (N := j - 1 - (i + 1)) (by omega)
                        rw [h1, List.length_append] at h2
                        have h3 := pre_len (rs := rs) (ts := ts) (n := n + 1) HIJ.out (by omega)
                        rw [HPN.out, HN.out, List.length_append] at h3
                        have h4 := most_all hr8 ht6 (i := i) HJ.out
                        rw [List.length_append]
                        omega)
                      have HL1 := Lib.hid (show (allR rs ts i (i + 1 + m9)).length ≤ 100000000 from Nat.le_trans (most_all hr8 ht6 (i := i) (j := (i + 1 + m9)) (by have := HJ.out; omega)) (by omega))
                      have HL3 := Lib.hid (show (allR rs ts ((i + 1 + m9) + 1) j).length ≤ 100000000 from Nat.le_trans (most_all hr8 ht6 (i := (i + 1 + m9) + 1) HJ.out) (by omega))
                      have HPM := Lib.hid (show (leastR rs (allR rs ts i (i + 1 + m9)) u.left).length ≤ 100000000 from Nat.le_trans least_len HL1.out)
                      have HPL := Lib.hid (show (leastR rs (allR rs ts i (i + 1 + m9)) u.left).length * (leastR rs (allR rs ts ((i + 1 + m9) + 1) j) u.right).length + (leastR rs (allR rs ts ((i + 1 + m9) + 1) j) u.right).length ≤ 3000000000000 from pair_bound (Nat.le_trans least_len (most_all hr8 ht6 (by have := HJ.out; omega))) (Nat.le_trans least_len (most_all hr8 ht6 HJ.out)))
                      have HA1 := Lib.hid (fun (wq : World) (hb : Below w.heap.size w wq) => IH.out i (i + 1 + m9) wq (by have := HM.out; have := HIJ.out; omega) (by have := HJ.out; omega) (HR0.out.keep hb) (HT0.out.keep hb))
                      have HA2 := Lib.hid (fun (wq : World) (hb : Below w.heap.size w wq) => IH.out ((i + 1 + m9) + 1) j wq (by have := HM.out; have := HIJ.out; omega) HJ.out (HR0.out.keep hb) (HT0.out.keep hb))
                      have HR7 := Lib.hid (HR0.out.keep HB.out)
                      clear hbq HTK
                      go_upto_region 16 with (fail)
                      refine region_ghostE (X := GA) (by kernel_rfl) [true, false, false, false, false, false, false, false, false, false, false, false, false, false, false, false, false, false, false, false, false, false, false, false, false] _ (fun gx => [u9, .int .i64 (↑n), .int .i64 (↑i), .slice (some ad2) rs.length cap, .slice (some ad2) rs.length cap, .slice (some ad) ts.length cT, .int .i64 (↑i), .int .i64 (↑(i + 1 + m9)), gx.a, .pointer (some ⟨g0, 4, none⟩), .int .i64 u.left, gx.b, .slice (some ad2) rs.length cap, .slice (some ad2) rs.length cap, .slice (some ad) ts.length cT, .int .i64 (↑(i + 1 + m9)), .int .i64 ((↑(i + 1 + m9)) + 1), .int .i64 (↑j), gx.c, .pointer (some ⟨g0, 5, none⟩), .int .i64 u.right, gx.d, gx.e, gx.f, gx.f]) [true, true, true, true, true, true, true, true, true, true, true, true, true, true, true, true, true, true, true, true, true, true, true, true, true] [8, 11, 18, 21, 22, 23] (InvA w w7 u9 (allR rs ts i (i + 1 + m9)) (leastR rs (allR rs ts i (i + 1 + m9)) u.left) (allR rs ts ((i + 1 + m9) + 1) j) (leastR rs (allR rs ts ((i + 1 + m9) + 1) j) u.right) (pairsR n i (leastR rs (allR rs ts i (i + 1 + m9)) u.left) (leastR rs (allR rs ts ((i + 1 + m9) + 1) j) u.right)) (preR rs ts i j n ++ (List.range' (i + 1) m9).flatMap (inG rs ts i j n u))) ⟨.nilFunc, .nilFunc, .nilFunc, .nilFunc, .nilFunc, .nilFunc⟩ (by kernel_rfl) (fun gx => by simp [fin, finOn, dstAt, List.range, List.range.loop, Act.put]; rfl) (fun _ => by kernel_rfl) (by kernel_rfl) InvA.start ?_ ?_
                      · refine ⟨fun L gx wq hL hb ha hI => ?_, fun L gx wq hL hb ha hI => ?_, fun L gx wq hL hb ha hI => ?_, fun L gx wq hL hb ha hI => ?_, fun L gx wq hL hb ha hI => ?_, fun L gx wq hL hb ha hI => ?_, fun L gx wq hL hb ha hI => ?_, fun L gx wq hL hb ha hI => ?_, fun L gx wq hL hb ha hI => ?_, fun L gx wq hL hb ha hI => ?_, fun L gx wq hL hb ha hI => ?_, fun L gx wq hL hb ha hI => ?_, fun L gx wq hL hb ha hI => ?_, fun L gx wq hL hb ha hI => ?_, fun L gx wq hL hb ha hI => ?_, fun L gx wq hL hb ha hI => ?_, fun L gx wq hL hb ha hI => ?_, fun L gx wq hL hb ha hI => ?_, fun L gx wq hL hb ha hI => ?_, fun L gx wq hL hb ha hI => ?_, fun L gx wq hL hb ha hI => ?_, fun L gx wq hL hb ha hI => ?_, fun L gx wq hL hb ha hI => ?_, fun L gx wq hL hb ha hI => ?_, fun L gx wq hL hb ha hI => ?_, trivial⟩
                        · exact Gives.plain (v := u9) (w' := wq) (by kernel_rfl) rfl hI
                        · exact Gives.plain (v := .int .i64 (↑n)) (w' := wq) (by kernel_rfl) rfl hI
                        · exact Gives.plain (v := .int .i64 (↑i)) (w' := wq) (by kernel_rfl) rfl hI
                        · exact Gives.plain (v := .slice (some ad2) rs.length cap) (w' := wq) (by kernel_rfl) rfl hI
                        · exact Gives.plain (v := .slice (some ad2) rs.length cap) (w' := wq) (by kernel_rfl) rfl hI
                        · exact Gives.plain (v := .slice (some ad) ts.length cT) (w' := wq) (by kernel_rfl) rfl hI
                        · exact Gives.plain (v := .int .i64 (↑i)) (w' := wq) (by kernel_rfl) rfl hI
                        · exact Gives.plain (v := .int .i64 (↑(i + 1 + m9))) (w' := wq) (by kernel_rfl) rfl hI
                        · have e5 : L 23 = false := ha 23 (by kernel_rfl)
                          have hX := hI.below (congrArg some e5)
                          refine Gives.call (f := 33) (args := #[.slice (some ad2) rs.length cap, .slice (some ad) ts.length cT, .int .i64 (↑i), .int .i64 ((i + 1 + m9 : Nat) : Int)]) (w' := wq) (by kernel_rfl) ((HA1.out wq (HB.out.trans (hX.mono HB.out.size))).mono ?_)
                          rintro e wa ⟨v, rfl, ho, hb2⟩
                          exact ⟨_, rfl, {gx with a := v}, rfl, (KeepsV.of_same ⟨.inr (.inr rfl), .inr (.inr rfl), .inr (.inr rfl), .inr (.inr rfl), .inr (.inr rfl), .inr (.inr rfl), .inr (.inr rfl), .inr (.inr rfl), .inl rfl, .inr (.inr rfl), .inr (.inr rfl), (by first | exact .inr (.inr rfl) | exact .inr (.inl (by kernel_rfl))), .inr (.inr rfl), .inr (.inr rfl), .inr (.inr rfl), .inr (.inr rfl), .inr (.inr rfl), .inr (.inr rfl), (by first | exact .inr (.inr rfl) | exact .inr (.inl (by kernel_rfl))), .inr (.inr rfl), .inr (.inr rfl), (by first | exact .inr (.inr rfl) | exact .inr (.inl (by kernel_rfl))), (by first | exact .inr (.inr rfl) | exact .inr (.inl (by kernel_rfl))), (by first | exact .inr (.inr rfl) | exact .inr (.inl (by kernel_rfl))), (by first | exact .inr (.inr rfl) | exact .inr (.inl (by kernel_rfl))), trivial⟩), InvA.s0 e5 hI hb2 ho⟩
                        · exact Gives.plain (v := .pointer (some ⟨g0, 4, none⟩)) (w' := wq) (by simp [go_sem, evAct]) rfl hI
                        · have e5 : L 23 = false := ha 23 (by kernel_rfl); have hX := hI.below (congrArg some e5); have cu := (keep hX HK.out).cell 4
                          exact Gives.plain (v := .int .i64 u.left) (w' := wq) (by simp [go_sem, evAct, cu]) rfl hI
                        · have e5 : L 23 = false := ha 23 (by kernel_rfl)
                          have hX := hI.below (congrArg some e5)
                          have ex : L 8 = true := hb 8 (by kernel_rfl)
                          obtain ⟨ga, gb, gc, gd, ge, gf⟩ := gx
                          obtain ⟨A1, c1, e1, h1⟩ := InvA.list ((hI.1 (congrArg some e5)).2.1 (congrArg some ex)) (fun b h => h)
                          obtain rfl : ga = _ := e1
                          refine Gives.call (f := 51) (args := #[.slice (some ad2) rs.length cap, .slice A1 (allR rs ts i (i + 1 + m9)).length c1, .int .i64 u.left]) (w' := wq) (by kernel_rfl) ((rleast_any (fun b => w7.heap.size ≤ b) (some ad2) A1 cap c1 rs (allR rs ts i (i + 1 + m9)) u.left wq (HR7.out.keep hX) h1 (fun x hx => (all_rule hx).2) HL1.out).mono ?_)
                          rintro e wa ⟨v, rfl, ho, hb2⟩
                          exact ⟨_, rfl, ⟨_, v, gc, gd, ge, gf⟩, rfl, (KeepsV.of_same ⟨.inr (.inr rfl), .inr (.inr rfl), .inr (.inr rfl), .inr (.inr rfl), .inr (.inr rfl), .inr (.inr rfl), .inr (.inr rfl), .inr (.inr rfl), (by first | exact .inr (.inr rfl) | exact .inr (.inl (by kernel_rfl))), .inr (.inr rfl), .inr (.inr rfl), .inl rfl, .inr (.inr rfl), .inr (.inr rfl), .inr (.inr rfl), .inr (.inr rfl), .inr (.inr rfl), .inr (.inr rfl), (by first | exact .inr (.inr rfl) | exact .inr (.inl (by kernel_rfl))), .inr (.inr rfl), .inr (.inr rfl), (by first | exact .inr (.inr rfl) | exact .inr (.inl (by kernel_rfl))), (by first | exact .inr (.inr rfl) | exact .inr (.inl (by kernel_rfl))), (by first | exact .inr (.inr rfl) | exact .inr (.inl (by kernel_rfl))), (by first | exact .inr (.inr rfl) | exact .inr (.inl (by kernel_rfl))), trivial⟩), InvA.s1 e5 hI hb2 ho⟩
                        · exact Gives.plain (v := .slice (some ad2) rs.length cap) (w' := wq) (by kernel_rfl) rfl hI
                        · exact Gives.plain (v := .slice (some ad2) rs.length cap) (w' := wq) (by kernel_rfl) rfl hI
                        · exact Gives.plain (v := .slice (some ad) ts.length cT) (w' := wq) (by kernel_rfl) rfl hI
                        · exact Gives.plain (v := .int .i64 (↑(i + 1 + m9))) (w' := wq) (by kernel_rfl) rfl hI
                        · skip
                          exact Gives.plain (v := .int .i64 ((↑(i + 1 + m9)) + 1)) (w' := wq) (by simp [go_sem, evAct]; exact IntWalk.i64_in _ (by omega)) rfl hI
                        · exact Gives.plain (v := .int .i64 (↑j)) (w' := wq) (by kernel_rfl) rfl hI
                        · have e5 : L 23 = false := ha 23 (by kernel_rfl)
                          have hX := hI.below (congrArg some e5)
                          refine Gives.call (f := 33) (args := #[.slice (some ad2) rs.length cap, .slice (some ad) ts.length cT, .int .i64 ((i + 1 + m9 + 1 : Nat) : Int), .int .i64 (↑j)]) (w' := wq) (by kernel_rfl) ((HA2.out wq (HB.out.trans (hX.mono HB.out.size))).mono ?_)
                          rintro e wa ⟨v, rfl, ho, hb2⟩
                          exact ⟨_, rfl, {gx with c := v}, rfl, (KeepsV.of_same ⟨.inr (.inr rfl), .inr (.inr rfl), .inr (.inr rfl), .inr (.inr rfl), .inr (.inr rfl), .inr (.inr rfl), .inr (.inr rfl), .inr (.inr rfl), (by first | exact .inr (.inr rfl) | exact .inr (.inl (by kernel_rfl))), .inr (.inr rfl), .inr (.inr rfl), (by first | exact .inr (.inr rfl) | exact .inr (.inl (by kernel_rfl))), .inr (.inr rfl), .inr (.inr rfl), .inr (.inr rfl), .inr (.inr rfl), .inr (.inr rfl), .inr (.inr rfl), .inl rfl, .inr (.inr rfl), .inr (.inr rfl), (by first | exact .inr (.inr rfl) | exact .inr (.inl (by kernel_rfl))), (by first | exact .inr (.inr rfl) | exact .inr (.inl (by kernel_rfl))), (by first | exact .inr (.inr rfl) | exact .inr (.inl (by kernel_rfl))), (by first | exact .inr (.inr rfl) | exact .inr (.inl (by kernel_rfl))), trivial⟩), InvA.s2 e5 hI hb2 ho⟩
                        · exact Gives.plain (v := .pointer (some ⟨g0, 5, none⟩)) (w' := wq) (by simp [go_sem, evAct]) rfl hI
                        · have e5 : L 23 = false := ha 23 (by kernel_rfl); have hX := hI.below (congrArg some e5); have cu := (keep hX HK.out).cell 5
                          exact Gives.plain (v := .int .i64 u.right) (w' := wq) (by simp [go_sem, evAct, cu]) rfl hI
                        · have e5 : L 23 = false := ha 23 (by kernel_rfl)
                          have hX := hI.below (congrArg some e5)
                          have ex : L 18 = true := hb 18 (by kernel_rfl)
                          obtain ⟨ga, gb, gc, gd, ge, gf⟩ := gx
                          obtain ⟨A1, c1, e1, h1⟩ := InvA.list ((hI.1 (congrArg some e5)).2.2.2.1 (congrArg some ex)) (fun b h => h)
                          obtain rfl : gc = _ := e1
                          refine Gives.call (f := 51) (args := #[.slice (some ad2) rs.length cap, .slice A1 (allR rs ts ((i + 1 + m9) + 1) j).length c1, .int .i64 u.right]) (w' := wq) (by kernel_rfl) ((rleast_any (fun b => w7.heap.size ≤ b) (some ad2) A1 cap c1 rs (allR rs ts ((i + 1 + m9) + 1) j) u.right wq (HR7.out.keep hX) h1 (fun x hx => (all_rule hx).2) HL3.out).mono ?_)
                          rintro e wa ⟨v, rfl, ho, hb2⟩
                          exact ⟨_, rfl, ⟨ga, gb, _, v, ge, gf⟩, rfl, (KeepsV.of_same ⟨.inr (.inr rfl), .inr (.inr rfl), .inr (.inr rfl), .inr (.inr rfl), .inr (.inr rfl), .inr (.inr rfl), .inr (.inr rfl), .inr (.inr rfl), (by first | exact .inr (.inr rfl) | exact .inr (.inl (by kernel_rfl))), .inr (.inr rfl), .inr (.inr rfl), (by first | exact .inr (.inr rfl) | exact .inr (.inl (by kernel_rfl))), .inr (.inr rfl), .inr (.inr rfl), .inr (.inr rfl), .inr (.inr rfl), .inr (.inr rfl), .inr (.inr rfl), (by first | exact .inr (.inr rfl) | exact .inr (.inl (by kernel_rfl))), .inr (.inr rfl), .inr (.inr rfl), .inl rfl, (by first | exact .inr (.inr rfl) | exact .inr (.inl (by kernel_rfl))), (by first | exact .inr (.inr rfl) | exact .inr (.inl (by kernel_rfl))), (by first | exact .inr (.inr rfl) | exact .inr (.inl (by kernel_rfl))), trivial⟩), InvA.s3 e5 hI hb2 ho⟩
                        · have e5 : L 23 = false := ha 23 (by kernel_rfl)
                          have hX := hI.below (congrArg some e5)
                          have ex : L 11 = true := hb 11 (by kernel_rfl)
                          have ey : L 21 = true := hb 21 (by kernel_rfl)
                          obtain ⟨ga, gb, gc, gd, ge, gf⟩ := gx
                          obtain ⟨A1, c1, e1, h1⟩ := InvA.list ((hI.1 (congrArg some e5)).2.2.1 (congrArg some ex)) (fun b h => h)
                          obtain ⟨A2, c2, e2, h2⟩ := InvA.list ((hI.1 (congrArg some e5)).2.2.2.2.1 (congrArg some ey)) (fun b h => h)
                          obtain rfl : gb = _ := e1
                          obtain rfl : gd = _ := e2
                          refine Gives.call (f := 50) (args := #[.int .i64 (↑n), .int .i64 (↑i), .slice A1 (leastR rs (allR rs ts i (i + 1 + m9)) u.left).length c1, .slice A2 (leastR rs (allR rs ts ((i + 1 + m9) + 1) j) u.right).length c2]) (w' := wq) (by kernel_rfl) ((pairs_any (fun b => w7.heap.size ≤ b) A1 A2 c1 c2 n i (leastR rs (allR rs ts i (i + 1 + m9)) u.left) (leastR rs (allR rs ts ((i + 1 + m9) + 1) j) u.right) wq h1 h2 HPL.out HPM.out).mono ?_)
                          rintro e wa ⟨v, rfl, ho, hb2⟩
                          exact ⟨_, rfl, ⟨ga, _, gc, _, v, gf⟩, rfl, (KeepsV.of_same ⟨.inr (.inr rfl), .inr (.inr rfl), .inr (.inr rfl), .inr (.inr rfl), .inr (.inr rfl), .inr (.inr rfl), .inr (.inr rfl), .inr (.inr rfl), (by first | exact .inr (.inr rfl) | exact .inr (.inl (by kernel_rfl))), .inr (.inr rfl), .inr (.inr rfl), (by first | exact .inr (.inr rfl) | exact .inr (.inl (by kernel_rfl))), .inr (.inr rfl), .inr (.inr rfl), .inr (.inr rfl), .inr (.inr rfl), .inr (.inr rfl), .inr (.inr rfl), (by first | exact .inr (.inr rfl) | exact .inr (.inl (by kernel_rfl))), .inr (.inr rfl), .inr (.inr rfl), (by first | exact .inr (.inr rfl) | exact .inr (.inl (by kernel_rfl))), .inl rfl, (by first | exact .inr (.inr rfl) | exact .inr (.inl (by kernel_rfl))), (by first | exact .inr (.inr rfl) | exact .inr (.inl (by kernel_rfl))), trivial⟩), InvA.s4 e5 hI hb2 ho⟩
                        · have e5 : L 23 = false := hL
                          have x0 : L 8 = true := hb 8 (by kernel_rfl)
                          have x1 : L 11 = true := hb 11 (by kernel_rfl)
                          have x2 : L 18 = true := hb 18 (by kernel_rfl)
                          have x3 : L 21 = true := hb 21 (by kernel_rfl)
                          have x4 : L 22 = true := hb 22 (by kernel_rfl)
                          simp only [List.map, e5, x0, x1, x2, x3, x4] at hI ⊢
                          refine InvA.append (.tmp 66) (.tmp 88) rfl hi hz0 hz1 hz2 (by kernel_rfl) (by kernel_rfl) hI HO.out HB.out HLN.out ?_
                          intro v' w' h9
                          exact ⟨{gx with f := v'}, rfl, (KeepsV.of_same ⟨.inr (.inr rfl), .inr (.inr rfl), .inr (.inr rfl), .inr (.inr rfl), .inr (.inr rfl), .inr (.inr rfl), .inr (.inr rfl), .inr (.inr rfl), (by first | exact .inr (.inr rfl) | exact .inr (.inl (by kernel_rfl))), .inr (.inr rfl), .inr (.inr rfl), (by first | exact .inr (.inr rfl) | exact .inr (.inl (by kernel_rfl))), .inr (.inr rfl), .inr (.inr rfl), .inr (.inr rfl), .inr (.inr rfl), .inr (.inr rfl), .inr (.inr rfl), (by first | exact .inr (.inr rfl) | exact .inr (.inl (by kernel_rfl))), .inr (.inr rfl), .inr (.inr rfl), (by first | exact .inr (.inr rfl) | exact .inr (.inl (by kernel_rfl))), (by first | exact .inr (.inr rfl) | exact .inr (.inl (by kernel_rfl))), .inl rfl, (by first | exact .inr (.inr rfl) | exact .inr (.inl (by kernel_rfl))), trivial⟩), h9⟩
                        · exact Gives.plain (v := gx.f) (w' := wq) (by kernel_rfl) rfl hI
                      · intro gx wq hI
                        have hI := hI.2 rfl
                        have HO := Lib.hid hI.1
                        have HB := Lib.hid hI.2.1
                        have HKF := Lib.hid (hI.2.2 _ _ _ HK.out HF.out)
                        have HK := Lib.hid HKF.out.1
                        have HF := Lib.hid HKF.out.2
                        clear hI HKF HA1 HA2
                        rw [← HPT.out] at HO
                        generalize gx.f = v9 at *
                        go_wp2_with fail
                        go_roundw
                        case rel => exact ⟨m9 + 1, by omega, by go_num, HO, HB, HK, HF⟩
                        case measure => simp [intOf]; omega
                  · obtain rfl : m9 = j - 1 - (i + 1) := by omega
                    have j5 : ¬ ((i + 1 + (j - 1 - (i + 1)) : Nat) : Int) < (j : Int) - 1 := by omega
                    have HE := Lib.hid (show preR rs ts i j (n + 1) = preR rs ts i j n ++ (List.range' (i + 1) (j - 1 - (i + 1))).flatMap (inG rs ts i j n u) by rw [HPN.out, HN.out])
                    rw [← HE.out] at HO
                    go_wp2_with fail
                    go_roundw
                    case rel => exact ⟨n + 1, by omega, by go_num, HO, HB⟩
                    case measure => simp [intOf]; omega
              by_cases q2 : u.kind = 2
              · have HN := Lib.hid (rule_pre (ts := ts) (i := i) (j := j) HU.out q2)
                have b1 : (u.kind == 1) = false := beq_eq_false_iff_ne.2 q1
                have b2 : (u.kind == 2) = true := beq_iff_eq.2 q2
                obtain ⟨hf2, ad3, e3, hadl3, c0⟩ := (HT0.out.keep HB.out) i s HS.out
                obtain rfl := Option.some.inj e3
                have HTK := Lib.hid (show tokB ts i u.sym.toList = (s.toList == u.sym.toList) by unfold tokB; rw [HS.out])
                have c1 := KU.out.cell 1
                clear e3 hf2 hadl3 q1 q2
                go_upto_region 18 with (fail)
                go_quiet (fail)
                have HO := Lib.hid (HO.out.keep (below_drewN (Below.refl _ _) nq))
                have HB := Lib.hid (below_drewN HB.out nq)
                have KU := Lib.hid (Blk.drewN KU.out nq)
                generalize w5.drewN nq = w7 at *
                clear c0 c1
                cases hbq : (s.toList == u.sym.toList)
                · have HE := Lib.hid (show preR rs ts i j (n + 1) = preR rs ts i j n by rw [HPN.out, HN.out, HTK.out, hbq]; simp)
                  rw [← HE.out] at HO
                  go_wp2_with fail
                  go_roundw
                  case rel => exact ⟨n + 1, by omega, by go_num, HO, HB⟩
                  case measure => simp [intOf]; omega
                · have HE := Lib.hid (show preR rs ts i j (n + 1) = preR rs ts i j n ++ soloR n i (leastR rs (allR rs ts (i + 1) j) u.right) by rw [HPN.out, HN.out, HTK.out, hbq, if_pos rfl])
                  have HA1 := Lib.hid (fun (wq : World) (hb : Below w.heap.size w wq) => IH.out (i + 1) j wq (by have := HM.out; have := HIJ.out; omega) (HJ.out) (HR0.out.keep hb) (HT0.out.keep hb))
                  have HR7 := Lib.hid (HR0.out.keep HB.out)
                  have HL1 := Lib.hid (show (allR rs ts (i + 1) j).length ≤ 100000000 from Nat.le_trans (most_all hr8 ht6 HJ.out) (by omega))
                  clear hbq HTK
                  go_upto_region 19 with (fail)
                  refine region_ghost (X := GA) (by kernel_rfl) _ (fun gx => [.slice (some ad2) rs.length cap, .slice (some ad2) rs.length cap, .slice (some ad) ts.length cT, .int .i64 (↑i), .int .i64 ((↑i) + 1), .int .i64 (↑j), gx.a, .pointer (some ⟨g0, 5, none⟩), .int .i64 u.right, gx.b, gx.b]) [true, true, true, true, true, true, true, true, true, true, true] [6, 9] (fun L g wq => InvA w w7 u9 (allR rs ts (i + 1) j) (leastR rs (allR rs ts (i + 1) j) u.right) [] [] [] [] (L ++ [false, false, false, false]) g wq) ⟨.nilFunc, .nilFunc, .nilFunc, .nilFunc, .nilFunc, .nilFunc⟩ (by kernel_rfl) (fun gx => by simp [fin, finOn, dstAt, List.range, List.range.loop, Act.put]; rfl) (fun _ => by kernel_rfl) (by kernel_rfl) InvA.start ?_ ?_
                  · refine ⟨fun L gx wq hL hb ha hI => ?_, fun L gx wq hL hb ha hI => ?_, fun L gx wq hL hb ha hI => ?_, fun L gx wq hL hb ha hI => ?_, fun L gx wq hL hb ha hI => ?_, fun L gx wq hL hb ha hI => ?_, fun L gx wq hL hb ha hI => ?_, fun L gx wq hL hb ha hI => ?_, fun L gx wq hL hb ha hI => ?_, fun L gx wq hL hb ha hI => ?_, fun L gx wq hL hb ha hI => ?_, trivial⟩
                    · exact Gives.plain (v := .slice (some ad2) rs.length cap) (w' := wq) (by kernel_rfl) rfl hI
                    · exact Gives.plain (v := .slice (some ad2) rs.length cap) (w' := wq) (by kernel_rfl) rfl hI
                    · exact Gives.plain (v := .slice (some ad) ts.length cT) (w' := wq) (by kernel_rfl) rfl hI
                    · exact Gives.plain (v := .int .i64 (↑i)) (w' := wq) (by kernel_rfl) rfl hI
                    · skip
                      exact Gives.plain (v := .int .i64 ((↑i) + 1)) (w' := wq) (by simp [go_sem]; exact IntWalk.i64_in _ (by omega)) rfl hI
                    · exact Gives.plain (v := .int .i64 (↑j)) (w' := wq) (by kernel_rfl) rfl hI
                    · have hX := hI.below rfl
                      refine Gives.call (f := 33) (args := #[.slice (some ad2) rs.length cap, .slice (some ad) ts.length cT, .int .i64 ((i + 1 : Nat) : Int), .int .i64 (↑j)]) (w' := wq) (by kernel_rfl) ((HA1.out wq (HB.out.trans (hX.mono HB.out.size))).mono ?_)
                      rintro e wa ⟨v, rfl, ho, hb2⟩
                      exact ⟨_, rfl, {gx with a := v}, rfl, (KeepsV.of_same ⟨.inr (.inr rfl), .inr (.inr rfl), .inr (.inr rfl), .inr (.inr rfl), .inr (.inr rfl), .inr (.inr rfl), .inl rfl, .inr (.inr rfl), .inr (.inr rfl), (by first | exact .inr (.inr rfl) | exact .inr (.inl (by kernel_rfl))), (by first | exact .inr (.inr rfl) | exact .inr (.inl (by kernel_rfl))), trivial⟩), InvA.s0 rfl hI hb2 ho⟩
                    · exact Gives.plain (v := .pointer (some ⟨g0, 5, none⟩)) (w' := wq) (by simp [go_sem]) rfl hI
                    · have hX := hI.below rfl; have cu := (keep hX KU.out).cell 5
                      exact Gives.plain (v := .int .i64 u.right) (w' := wq) (by simp [go_sem, cu]) rfl hI
                    · have hX := hI.below rfl
                      have ex : L 6 = true := hb 6 (by kernel_rfl)
                      obtain ⟨ga, gb, gc, gd, ge, gf⟩ := gx
                      obtain ⟨A1, c1, e1, h1⟩ := InvA.list ((hI.1 rfl).2.1 (congrArg some ex)) (fun b h => h)
                      obtain rfl : ga = _ := e1
                      refine Gives.call (f := 51) (args := #[.slice (some ad2) rs.length cap, .slice A1 (allR rs ts (i + 1) j).length c1, .int .i64 u.right]) (w' := wq) (by kernel_rfl) ((rleast_any (fun b => w7.heap.size ≤ b) (some ad2) A1 cap c1 rs (allR rs ts (i + 1) j) u.right wq (HR7.out.keep hX) h1 (fun x hx => (all_rule hx).2) HL1.out).mono ?_)
                      rintro e wa ⟨v, rfl, ho, hb2⟩
                      exact ⟨_, rfl, ⟨_, v, gc, gd, ge, gf⟩, rfl, (KeepsV.of_same ⟨.inr (.inr rfl), .inr (.inr rfl), .inr (.inr rfl), .inr (.inr rfl), .inr (.inr rfl), .inr (.inr rfl), (by first | exact .inr (.inr rfl) | exact .inr (.inl (by kernel_rfl))), .inr (.inr rfl), .inr (.inr rfl), .inl rfl, (by first | exact .inr (.inr rfl) | exact .inr (.inl (by kernel_rfl))), trivial⟩), InvA.s1 rfl hI hb2 ho⟩
                    · exact Gives.plain (v := gx.b) (w' := wq) (by kernel_rfl) rfl hI
                  · intro gx wq hI
                    have hI2 := hI.1 rfl
                    obtain ⟨ga, gb, gc, gd, ge, gf⟩ := gx
                    obtain ⟨L1, cl, e1, hc1, hc2, h3⟩ := (hI2.2.2.1 rfl).form (fun b h => h)
                    obtain rfl : gb = _ := e1
                    have HLT := Lib.hid (show ∀ b, u9.ownBlock = some b → b < w7.heap.size from fun b hb => (AppR.lt HO.out b hb).2)
                    have HSZ := Lib.hid HB.out.size
                    have HO := Lib.hid (HO.out.keep hI2.1)
                    have HB := Lib.hid (HB.out.trans (hI2.1.mono HB.out.size))
                    have HL := Lib.hid (h3.any (ok' := fun b => u9.ownBlock ≠ some b ∧ w.heap.size ≤ b) fun b _ h => ⟨fun e => by have := HLT.out b e; omega, Nat.le_trans HSZ.out h⟩)
                    have HXL := Lib.hid (show (leastR rs (allR rs ts (i + 1) j) u.right).length ≤ 100000000 from Nat.le_trans least_len HL1.out)
                    clear hI hI2 h3 HA1 HL1 HLT HSZ HR7 KU HFAR
                    generalize (leastR rs (allR rs ts (i + 1) j) u.right) = X at *
                    dsimp only
                    have HZ := Lib.hid (show preR rs ts i j n = preR rs ts i j n ++ soloR n i (X.take 0) by simp [soloR])
                    rw [HZ.out] at HO
                    have xl : X.length ≤ 100000000 := HXL.out
                    have xc := hc1
                    go_wp2_with fail
                    go_loopw [9, 14] (fun v t wr => ∃ m9 : Nat, m9 ≤ X.length ∧ t = .int .i64 m9 ∧ Hid (AppR (fun b => w.heap.size ≤ b) wr w.heap.size v (preR rs ts i j n ++ soloR n i (X.take m9))) ∧ Hid (Below w.heap.size w wr) ∧ Hid (RdsAt (fun b => v.ownBlock ≠ some b ∧ w.heap.size ≤ b) wr L1 X)) (fun _ t _ => X.length - (intOf t).toNat)
                    case atStart => exact ⟨0, by omega, rfl, HO, HB, HL⟩
                    case round =>
                      clear HO HB HL
                      obtain ⟨m9, hm9, rfl, HO, HB, HL⟩ := hrel
                      by_cases hlk : m9 < X.length
                      · obtain ⟨x, hx⟩ : ∃ x, X[m9]? = some x := ⟨_, List.getElem?_eq_getElem hlk⟩
                        obtain ⟨ad5, rfl, hl5, hk5, _⟩ := HL.out m9 x hx
                        have HSN := Lib.hid (solo_next (r := n) (a := i) hx)
                        have HPT := Lib.hid (show preR rs ts i j n ++ soloR n i (X.take (m9 + 1)) = (preR rs ts i j n ++ soloR n i (X.take m9)) ++ [.mk n i [x]] by rw [HSN.out, List.append_assoc])
                        have HLN := Lib.hid (show (preR rs ts i j n ++ soloR n i (X.take m9)).length ≤ 3000000000000 by
                          have h3 := pre_len (rs := rs) (ts := ts) (n := n) HIJ.out (by omega)
                          have h4 := most_all hr8 ht6 (i := i) HJ.out
                          rw [List.length_append]
                          unfold soloR
                          rw [List.length_map, List.length_take]
                          omega)
                        have HX := Lib.hid (HL.out.one hx)
                        have m0 : (0 : Int) ≤ (m9 : Int) := by omega
                        have m1 : (m9 : Int) ≤ (m9 : Int) + 1 := by omega
                        have m2 : (m9 : Int) + 1 ≤ (cl : Int) := by omega
                        have m3 : ¬ cl = m9 := by omega
                        clear hx hk5 HSN
                        generalize preR rs ts i j n ++ soloR n i (X.take m9) = Y at *
                        have hxl := HLN.out
                        have hba := bel_alloc wr (.cells (rdC n i (some (ad5.add (m9 * 3))) 1 (cl - m9)) 34)
                        have K6 := Lib.hid (Blk.new wr 34 (rdC n i (some (ad5.add (m9 * 3))) 1 (cl - m9)))
                        have hE := RdAt.of (ok := fun b => u9.ownBlock ≠ some b ∧ w.heap.size ≤ b) (w := wr.alloc (.cells (rdC n i (some (ad5.add (m9 * 3))) 1 (cl - m9)) 34)) (r := n) (a := i) (ks := [x]) (A := some (ad5.add (m9 * 3))) (cap := cl - m9) (by show 1 ≤ _; omega) (by omega) (HX.out.keep hba)
                        obtain ⟨css, ho, hl, hrr⟩ := HO.out.keep hba
                        have hbs : w.heap.size ≤ (wr.alloc (.cells (rdC n i (some (ad5.add (m9 * 3))) 1 (cl - m9)) 34)).heap.size := Nat.le_trans HB.out.size hba.size
                        have HLa := Lib.hid (HL.out.keep hba)
                        have HBa := Lib.hid (HB.out.trans (hba.mono HB.out.size))
                        have hfar : ∀ b, u9.ownBlock = some b → w.heap.size ≤ b := fun b hb => (AppR.lt HO.out b hb).1
                        clear hba HO HL HX HB
                        go_wp2_with (at_builtin; refine wpList_append_any _ rfl (.tmp 115) (.tmp 124) 26 rfl w.heap.size 34 i0 (.agg #[.int .i64 0, .int .i64 0, .slice none 0 0]) 3 40 Try.underlying26 hi hz0 hz1 hz2 rfl (by decide) _ _ _ rfl ho (wr.heap.size + 1) (some ⟨wr.heap.size, 0, none⟩) 1 1 (rdC n i (some (ad5.add (m9 * 3))) 1 (cl - m9)).toList rfl (by have := reads_agg K6.out rfl; rw [World.size_alloc] at this; exact this) (rd_one hE) (by unfold maxLen; omega) (by omega) hbs ?_); intro v' w' g2 g3 g4
                        rw [← World.size_alloc wr (.cells (rdC n i (some (ad5.add (m9 * 3))) 1 (cl - m9)) 34)] at g4
                        have HO := Lib.hid (AppR.push hl hrr hE g2 g3 g4)
                        rw [← HPT.out] at HO
                        have HB := Lib.hid (HBa.out.grown g3 hbs hfar)
                        have HL := Lib.hid (RdsAt.push HLa.out g3 g4)
                        clear ho hl hrr g2 g3 g4 hE hbs hfar HLa HBa K6
                        go_wp2_with fail
                        go_roundw
                        case rel => exact ⟨m9 + 1, by omega, by go_num, HO, HB, HL⟩
                        case measure => simp [intOf]; omega
                      · obtain rfl : m9 = X.length := by omega
                        rw [List.take_of_length_le (Nat.le_refl _), ← HE.out] at HO
                        go_wp2_with fail
                        go_roundw
                        case rel => exact ⟨n + 1, by omega, by go_num, HO, HB⟩
                        case measure => simp [intOf]; omega
              by_cases q3 : u.kind = 3
              · have HN := Lib.hid (rule_post (ts := ts) (i := i) (j := j) HU.out q3)
                have b1 : (u.kind == 1) = false := beq_eq_false_iff_ne.2 q1
                have b2 : (u.kind == 2) = false := beq_eq_false_iff_ne.2 q2
                have b3 : (u.kind == 3) = true := beq_iff_eq.2 q3
                obtain ⟨jj, hj1⟩ : ∃ jj : Nat, j = jj + 1 := ⟨j - 1, by have := HIJ.out; omega⟩
                have ej : (j : Int) - 1 = (jj : Int) := by omega
                have HJJ := Lib.hid hj1
                have HN := Lib.hid (HN.out)
                rw [show j - 1 = jj by omega] at HN
                obtain ⟨s2, hs2⟩ : ∃ s2, ts[jj]? = some s2 := ⟨_, List.getElem?_eq_getElem (by have := HJ.out; omega)⟩
                have HS := Lib.hid hs2
                have j6 : (jj : Int) < (ts.length : Int) := by have := HJ.out; omega
                have j7 : (0 : Int) ≤ (jj : Int) := by omega
                clear hj1 hs2
                obtain ⟨hf2, ad3, e3, hadl3, c0⟩ := (HT0.out.keep HB.out) jj s2 HS.out
                obtain rfl := Option.some.inj e3
                have HTK := Lib.hid (show tokB ts jj u.sym.toList = (s2.toList == u.sym.toList) by unfold tokB; rw [HS.out])
                have c1 := KU.out.cell 1
                clear e3 hf2 hadl3 q1 q2 q3
                go_upto_region 25 with (fail)
                go_quiet (fail)
                have HO := Lib.hid (HO.out.keep (below_drewN (Below.refl _ _) nq))
                have HB := Lib.hid (below_drewN HB.out nq)
                have KU := Lib.hid (Blk.drewN KU.out nq)
                generalize w5.drewN nq = w7 at *
                clear c0 c1
                cases hbq : (s2.toList == u.sym.toList)
                · have HE := Lib.hid (show preR rs ts i j (n + 1) = preR rs ts i j n by rw [HPN.out, HN.out, HTK.out, hbq]; simp)
                  rw [← HE.out] at HO
                  go_wp2_with fail
                  go_roundw
                  case rel => exact ⟨n + 1, by omega, by go_num, HO, HB⟩
                  case measure => simp [intOf]; omega
                · have HE := Lib.hid (show preR rs ts i j (n + 1) = preR rs ts i j n ++ soloR n i (leastR rs (allR rs ts i jj) u.left) by rw [HPN.out, HN.out, HTK.out, hbq, if_pos rfl])
                  have HA1 := Lib.hid (fun (wq : World) (hb : Below w.heap.size w wq) => IH.out i jj wq (by have := HM.out; have := HIJ.out; have := HJJ.out; omega) (by have := HJ.out; have := HJJ.out; omega) (HR0.out.keep hb) (HT0.out.keep hb))
                  have HR7 := Lib.hid (HR0.out.keep HB.out)
                  have HL1 := Lib.hid (show (allR rs ts i jj).length ≤ 100000000 from Nat.le_trans (most_all hr8 ht6 (by have := HJ.out; have := HJJ.out; omega)) (by omega))
                  clear hbq HTK
                  go_upto_region 26 with (fail)
                  refine region_ghost (X := GA) (by kernel_rfl) _ (fun gx => [.slice (some ad2) rs.length cap, .slice (some ad2) rs.length cap, .slice (some ad) ts.length cT, .int .i64 (↑i), .int .i64 (↑j), .int .i64 (↑jj), gx.a, .pointer (some ⟨g0, 4, none⟩), .int .i64 u.left, gx.b, gx.b]) [true, true, true, true, true, true, true, true, true, true, true] [6, 9] (fun L g wq => InvA w w7 u9 (allR rs ts i jj) (leastR rs (allR rs ts i jj) u.left) [] [] [] [] (L ++ [false, false, false, false]) g wq) ⟨.nilFunc, .nilFunc, .nilFunc, .nilFunc, .nilFunc, .nilFunc⟩ (by kernel_rfl) (fun gx => by simp [fin, finOn, dstAt, List.range, List.range.loop, Act.put]; rfl) (fun _ => by kernel_rfl) (by kernel_rfl) InvA.start ?_ ?_
                  · refine ⟨fun L gx wq hL hb ha hI => ?_, fun L gx wq hL hb ha hI => ?_, fun L gx wq hL hb ha hI => ?_, fun L gx wq hL hb ha hI => ?_, fun L gx wq hL hb ha hI => ?_, fun L gx wq hL hb ha hI => ?_, fun L gx wq hL hb ha hI => ?_, fun L gx wq hL hb ha hI => ?_, fun L gx wq hL hb ha hI => ?_, fun L gx wq hL hb ha hI => ?_, fun L gx wq hL hb ha hI => ?_, trivial⟩
                    · exact Gives.plain (v := .slice (some ad2) rs.length cap) (w' := wq) (by kernel_rfl) rfl hI
                    · exact Gives.plain (v := .slice (some ad2) rs.length cap) (w' := wq) (by kernel_rfl) rfl hI
                    · exact Gives.plain (v := .slice (some ad) ts.length cT) (w' := wq) (by kernel_rfl) rfl hI
                    · exact Gives.plain (v := .int .i64 (↑i)) (w' := wq) (by kernel_rfl) rfl hI
                    · exact Gives.plain (v := .int .i64 (↑j)) (w' := wq) (by kernel_rfl) rfl hI
                    · skip
                      exact Gives.plain (v := .int .i64 (↑jj)) (w' := wq) (by simp [go_sem, ej]; exact IntWalk.i64_in _ (by omega)) rfl hI
                    · have hX := hI.below rfl
                      refine Gives.call (f := 33) (args := #[.slice (some ad2) rs.length cap, .slice (some ad) ts.length cT, .int .i64 (↑i), .int .i64 (↑jj)]) (w' := wq) (by kernel_rfl) ((HA1.out wq (HB.out.trans (hX.mono HB.out.size))).mono ?_)
                      rintro e wa ⟨v, rfl, ho, hb2⟩
                      exact ⟨_, rfl, {gx with a := v}, rfl, (KeepsV.of_same ⟨.inr (.inr rfl), .inr (.inr rfl), .inr (.inr rfl), .inr (.inr rfl), .inr (.inr rfl), .inr (.inr rfl), .inl rfl, .inr (.inr rfl), .inr (.inr rfl), (by first | exact .inr (.inr rfl) | exact .inr (.inl (by kernel_rfl))), (by first | exact .inr (.inr rfl) | exact .inr (.inl (by kernel_rfl))), trivial⟩), InvA.s0 rfl hI hb2 ho⟩
                    · exact Gives.plain (v := .pointer (some ⟨g0, 4, none⟩)) (w' := wq) (by simp [go_sem]) rfl hI
                    · have hX := hI.below rfl; have cu := (keep hX KU.out).cell 4
                      exact Gives.plain (v := .int .i64 u.left) (w' := wq) (by simp [go_sem, cu]) rfl hI
                    · have hX := hI.below rfl
                      have ex : L 6 = true := hb 6 (by kernel_rfl)
                      obtain ⟨ga, gb, gc, gd, ge, gf⟩ := gx
                      obtain ⟨A1, c1, e1, h1⟩ := InvA.list ((hI.1 rfl).2.1 (congrArg some ex)) (fun b h => h)
                      obtain rfl : ga = _ := e1
                      refine Gives.call (f := 51) (args := #[.slice (some ad2) rs.length cap, .slice A1 (allR rs ts i jj).length c1, .int .i64 u.left]) (w' := wq) (by kernel_rfl) ((rleast_any (fun b => w7.heap.size ≤ b) (some ad2) A1 cap c1 rs (allR rs ts i jj) u.left wq (HR7.out.keep hX) h1 (fun x hx => (all_rule hx).2) HL1.out).mono ?_)
                      rintro e wa ⟨v, rfl, ho, hb2⟩
                      exact ⟨_, rfl, ⟨_, v, gc, gd, ge, gf⟩, rfl, (KeepsV.of_same ⟨.inr (.inr rfl), .inr (.inr rfl), .inr (.inr rfl), .inr (.inr rfl), .inr (.inr rfl), .inr (.inr rfl), (by first | exact .inr (.inr rfl) | exact .inr (.inl (by kernel_rfl))), .inr (.inr rfl), .inr (.inr rfl), .inl rfl, (by first | exact .inr (.inr rfl) | exact .inr (.inl (by kernel_rfl))), trivial⟩), InvA.s1 rfl hI hb2 ho⟩
                    · exact Gives.plain (v := gx.b) (w' := wq) (by kernel_rfl) rfl hI
                  · intro gx wq hI
                    have hI2 := hI.1 rfl
                    obtain ⟨ga, gb, gc, gd, ge, gf⟩ := gx
                    obtain ⟨L1, cl, e1, hc1, hc2, h3⟩ := (hI2.2.2.1 rfl).form (fun b h => h)
                    obtain rfl : gb = _ := e1
                    have HLT := Lib.hid (show ∀ b, u9.ownBlock = some b → b < w7.heap.size from fun b hb => (AppR.lt HO.out b hb).2)
                    have HSZ := Lib.hid HB.out.size
                    have HO := Lib.hid (HO.out.keep hI2.1)
                    have HB := Lib.hid (HB.out.trans (hI2.1.mono HB.out.size))
                    have HL := Lib.hid (h3.any (ok' := fun b => u9.ownBlock ≠ some b ∧ w.heap.size ≤ b) fun b _ h => ⟨fun e => by have := HLT.out b e; omega, Nat.le_trans HSZ.out h⟩)
                    have HXL := Lib.hid (show (leastR rs (allR rs ts i jj) u.left).length ≤ 100000000 from Nat.le_trans least_len HL1.out)
                    clear hI hI2 h3 HA1 HL1 HLT HSZ HR7 KU HFAR
                    generalize (leastR rs (allR rs ts i jj) u.left) = X at *
                    dsimp only
                    have HZ := Lib.hid (show preR rs ts i j n = preR rs ts i j n ++ soloR n i (X.take 0) by simp [soloR])
                    rw [HZ.out] at HO
                    have xl : X.length ≤ 100000000 := HXL.out
                    have xc := hc1
                    go_wp2_with fail
                    go_loopw [9, 16] (fun v t wr => ∃ m9 : Nat, m9 ≤ X.length ∧ t = .int .i64 m9 ∧ Hid (AppR (fun b => w.heap.size ≤ b) wr w.heap.size v (preR rs ts i j n ++ soloR n i (X.take m9))) ∧ Hid (Below w.heap.size w wr) ∧ Hid (RdsAt (fun b => v.ownBlock ≠ some b ∧ w.heap.size ≤ b) wr L1 X)) (fun _ t _ => X.length - (intOf t).toNat)
                    case atStart => exact ⟨0, by omega, rfl, HO, HB, HL⟩
                    case round =>
                      clear HO HB HL
                      obtain ⟨m9, hm9, rfl, HO, HB, HL⟩ := hrel
                      by_cases hlk : m9 < X.length
                      · obtain ⟨x, hx⟩ : ∃ x, X[m9]? = some x := ⟨_, List.getElem?_eq_getElem hlk⟩
                        obtain ⟨ad5, rfl, hl5, hk5, _⟩ := HL.out m9 x hx
                        have HSN := Lib.hid (solo_next (r := n) (a := i) hx)
                        have HPT := Lib.hid (show preR rs ts i j n ++ soloR n i (X.take (m9 + 1)) = (preR rs ts i j n ++ soloR n i (X.take m9)) ++ [.mk n i [x]] by rw [HSN.out, List.append_assoc])
                        have HLN := Lib.hid (show (preR rs ts i j n ++ soloR n i (X.take m9)).length ≤ 3000000000000 by
                          have h3 := pre_len (rs := rs) (ts := ts) (n := n) HIJ.out (by omega)
                          have h4 := most_all hr8 ht6 (i := i) HJ.out
                          rw [List.length_append]
                          unfold soloR
                          rw [List.length_map, List.length_take]
                          omega)
                        have HX := Lib.hid (HL.out.one hx)
                        have m0 : (0 : Int) ≤ (m9 : Int) := by omega
                        have m1 : (m9 : Int) ≤ (m9 : Int) + 1 := by omega
                        have m2 : (m9 : Int) + 1 ≤ (cl : Int) := by omega
                        have m3 : ¬ cl = m9 := by omega
                        clear hx hk5 HSN
                        generalize preR rs ts i j n ++ soloR n i (X.take m9) = Y at *
                        have hxl := HLN.out
                        have hba := bel_alloc wr (.cells (rdC n i (some (ad5.add (m9 * 3))) 1 (cl - m9)) 34)
                        have K6 := Lib.hid (Blk.new wr 34 (rdC n i (some (ad5.add (m9 * 3))) 1 (cl - m9)))
                        have hE := RdAt.of (ok := fun b => u9.ownBlock ≠ some b ∧ w.heap.size ≤ b) (w := wr.alloc (.cells (rdC n i (some (ad5.add (m9 * 3))) 1 (cl - m9)) 34)) (r := n) (a := i) (ks := [x]) (A := some (ad5.add (m9 * 3))) (cap := cl - m9) (by show 1 ≤ _; omega) (by omega) (HX.out.keep hba)
                        obtain ⟨css, ho, hl, hrr⟩ := HO.out.keep hba
                        have hbs : w.heap.size ≤ (wr.alloc (.cells (rdC n i (some (ad5.add (m9 * 3))) 1 (cl - m9)) 34)).heap.size := Nat.le_trans HB.out.size hba.size
                        have HLa := Lib.hid (HL.out.keep hba)
                        have HBa := Lib.hid (HB.out.trans (hba.mono HB.out.size))
                        have hfar : ∀ b, u9.ownBlock = some b → w.heap.size ≤ b := fun b hb => (AppR.lt HO.out b hb).1
                        clear hba HO HL HX HB
                        go_wp2_with (at_builtin; refine wpList_append_any _ rfl (.tmp 152) (.tmp 161) 26 rfl w.heap.size 34 i0 (.agg #[.int .i64 0, .int .i64 0, .slice none 0 0]) 3 40 Try.underlying26 hi hz0 hz1 hz2 rfl (by decide) _ _ _ rfl ho (wr.heap.size + 1) (some ⟨wr.heap.size, 0, none⟩) 1 1 (rdC n i (some (ad5.add (m9 * 3))) 1 (cl - m9)).toList rfl (by have := reads_agg K6.out rfl; rw [World.size_alloc] at this; exact this) (rd_one hE) (by unfold maxLen; omega) (by omega) hbs ?_); intro v' w' g2 g3 g4
                        rw [← World.size_alloc wr (.cells (rdC n i (some (ad5.add (m9 * 3))) 1 (cl - m9)) 34)] at g4
                        have HO := Lib.hid (AppR.push hl hrr hE g2 g3 g4)
                        rw [← HPT.out] at HO
                        have HB := Lib.hid (HBa.out.grown g3 hbs hfar)
                        have HL := Lib.hid (RdsAt.push HLa.out g3 g4)
                        clear ho hl hrr g2 g3 g4 hE hbs hfar HLa HBa K6
                        go_wp2_with fail
                        go_roundw
                        case rel => exact ⟨m9 + 1, by omega, by go_num, HO, HB, HL⟩
                        case measure => simp [intOf]; omega
                      · obtain rfl : m9 = X.length := by omega
                        rw [List.take_of_length_le (Nat.le_refl _), ← HE.out] at HO
                        go_wp2_with fail
                        go_roundw
                        case rel => exact ⟨n + 1, by omega, by go_num, HO, HB⟩
                        case measure => simp [intOf]; omega
              by_cases q4 : u.kind = 4
              · have HN := Lib.hid (rule_jux (ts := ts) (i := i) (j := j) HU.out q4)
                have b1 : (u.kind == 1) = false := beq_eq_false_iff_ne.2 q1
                have b2 : (u.kind == 2) = false := beq_eq_false_iff_ne.2 q2
                have b3 : (u.kind == 3) = false := beq_eq_false_iff_ne.2 q3
                have b4 : (u.kind == 4) = true := beq_iff_eq.2 q4
                have HZ := Lib.hid (show preR rs ts i j n = preR rs ts i j n ++ (List.range' (i + 1) 0).flatMap (juxG rs ts i j n u) by simp)
                rw [HZ.out] at HO
                clear q1 q2 q3 q4
                go_wp2_with fail
                go_loopw [9, 17] (fun v t wr => ∃ m9 : Nat, m9 ≤ j - (i + 1) ∧ t = .int .i64 ((i + 1 + m9 : Nat) : Int) ∧ Hid (AppR (fun b => w.heap.size ≤ b) wr w.heap.size v (preR rs ts i j n ++ (List.range' (i + 1) m9).flatMap (juxG rs ts i j n u))) ∧ Hid (Below w.heap.size w wr) ∧ Hid (Blk wr g0 41 u.c) ∧ Hid (v.ownBlock ≠ some g0)) (fun _ t _ => j - (intOf t).toNat)
                case atStart => exact ⟨0, by omega, rfl, HO, HB, KU, HFAR⟩
                case round =>
                  clear HO HB KU HFAR
                  obtain ⟨m9, hm9, rfl, HO, HB, HK, HF⟩ := hrel
                  by_cases hlk : m9 < j - (i + 1)
                  · have j5 : ((i + 1 + m9 : Nat) : Int) < (j : Int) := by omega
                    have HPT := Lib.hid (show preR rs ts i j n ++ (List.range' (i + 1) (m9 + 1)).flatMap (juxG rs ts i j n u) = (preR rs ts i j n ++ (List.range' (i + 1) m9).flatMap (juxG rs ts i j n u)) ++ (pairsR n i (leastR rs (allR rs ts i (i + 1 + m9)) u.left) (leastR rs (allR rs ts (i + 1 + m9) j) u.right)) by rw [part_next, ← List.append_assoc]; rfl)
                    have HLN := Lib.hid (show (preR rs ts i j n ++ (List.range' (i + 1) m9).flatMap (juxG rs ts i j n u)).length + (pairsR n i (leastR rs (allR rs ts i (i + 1 + m9)) u.left) (leastR rs (allR rs ts (i + 1 + m9) j) u.right)).length ≤ 3000000000000 by
                      have h1 : (List.range' (i + 1) (m9 + 1)).flatMap (juxG rs ts i j n u) = (List.range' (i + 1) m9).flatMap (juxG rs ts i j n u) ++ (pairsR n i (leastR rs (allR rs ts i (i + 1 + m9)) u.left) (leastR rs (allR rs ts (i + 1 + m9) j) u.right)) := by rw [part_next]; rfl
                      have h2 := part_len (g := juxG rs ts i j n u) (a := i + 1) (t := m9 + 1) (N := j - (i + 1)) (by omega)
                      rw [h1, List.length_append] at h2
                      have h3 := pre_len (rs := rs) (ts := ts) (n := n + 1) HIJ.out (by omega)
                      rw [HPN.out, HN.out, List.length_append] at h3
                      have h4 := most_all hr8 ht6 (i := i) HJ.out
                      rw [List.length_append]
                      omega)
                    have HL1 := Lib.hid (show (allR rs ts i (i + 1 + m9)).length ≤ 100000000 from Nat.le_trans (most_all hr8 ht6 (i := i) (j := (i + 1 + m9)) (by have := HJ.out; omega)) (by omega))
                    have HL3 := Lib.hid (show (allR rs ts (i + 1 + m9) j).length ≤ 100000000 from Nat.le_trans (most_all hr8 ht6 (i := (i + 1 + m9)) HJ.out) (by omega))
                    have HPM := Lib.hid (show (leastR rs (allR rs ts i (i + 1 + m9)) u.left).length ≤ 100000000 from Nat.le_trans least_len HL1.out)
                    have HPL := Lib.hid (show (leastR rs (allR rs ts i (i + 1 + m9)) u.left).length * (leastR rs (allR rs ts (i + 1 + m9) j) u.right).length + (leastR rs (allR rs ts (i + 1 + m9) j) u.right).length ≤ 3000000000000 from pair_bound (Nat.le_trans least_len (most_all hr8 ht6 (by have := HJ.out; omega))) (Nat.le_trans least_len (most_all hr8 ht6 HJ.out)))
                    have HA1 := Lib.hid (fun (wq : World) (hb : Below w.heap.size w wq) => IH.out i (i + 1 + m9) wq (by have := HM.out; have := HIJ.out; omega) (by have := HJ.out; omega) (HR0.out.keep hb) (HT0.out.keep hb))
                    have HA2 := Lib.hid (fun (wq : World) (hb : Below w.heap.size w wq) => IH.out (i + 1 + m9) j wq (by have := HM.out; have := HIJ.out; omega) HJ.out (HR0.out.keep hb) (HT0.out.keep hb))
                    have HR7 := Lib.hid (HR0.out.keep HB.out)
                    go_upto_region 35 with (fail)
                    refine region_ghostE (X := GA) (by kernel_rfl) [true, false, false, false, false, false, false, false, false, false, false, false, false, false, false, false, false, false, false, false, false, false, false, false] _ (fun gx => [u9, .int .i64 (↑n), .int .i64 (↑i), .slice (some ad2) rs.length cap, .slice (some ad2) rs.length cap, .slice (some ad) ts.length cT, .int .i64 (↑i), .int .i64 (↑(i + 1 + m9)), gx.a, .pointer (some ⟨g0, 4, none⟩), .int .i64 u.left, gx.b, .slice (some ad2) rs.length cap, .slice (some ad2) rs.length cap, .slice (some ad) ts.length cT, .int .i64 (↑(i + 1 + m9)), .int .i64 (↑j), gx.c, .pointer (some ⟨g0, 5, none⟩), .int .i64 u.right, gx.d, gx.e, gx.f, gx.f]) [true, true, true, true, true, true, true, true, true, true, true, true, true, true, true, true, true, true, true, true, true, true, true, true] [8, 11, 17, 20, 21, 22] (InvA w wr u9 (allR rs ts i (i + 1 + m9)) (leastR rs (allR rs ts i (i + 1 + m9)) u.left) (allR rs ts (i + 1 + m9) j) (leastR rs (allR rs ts (i + 1 + m9) j) u.right) (pairsR n i (leastR rs (allR rs ts i (i + 1 + m9)) u.left) (leastR rs (allR rs ts (i + 1 + m9) j) u.right)) (preR rs ts i j n ++ (List.range' (i + 1) m9).flatMap (juxG rs ts i j n u))) ⟨.nilFunc, .nilFunc, .nilFunc, .nilFunc, .nilFunc, .nilFunc⟩ (by kernel_rfl) (fun gx => by simp [fin, finOn, dstAt, List.range, List.range.loop, Act.put]; rfl) (fun _ => by kernel_rfl) (by kernel_rfl) InvA.start ?_ ?_
                    · refine ⟨fun L gx wq hL hb ha hI => ?_, fun L gx wq hL hb ha hI => ?_, fun L gx wq hL hb ha hI => ?_, fun L gx wq hL hb ha hI => ?_, fun L gx wq hL hb ha hI => ?_, fun L gx wq hL hb ha hI => ?_, fun L gx wq hL hb ha hI => ?_, fun L gx wq hL hb ha hI => ?_, fun L gx wq hL hb ha hI => ?_, fun L gx wq hL hb ha hI => ?_, fun L gx wq hL hb ha hI => ?_, fun L gx wq hL hb ha hI => ?_, fun L gx wq hL hb ha hI => ?_, fun L gx wq hL hb ha hI => ?_, fun L gx wq hL hb ha hI => ?_, fun L gx wq hL hb ha hI => ?_, fun L gx wq hL hb ha hI => ?_, fun L gx wq hL hb ha hI => ?_, fun L gx wq hL hb ha hI => ?_, fun L gx wq hL hb ha hI => ?_, fun L gx wq hL hb ha hI => ?_, fun L gx wq hL hb ha hI => ?_, fun L gx wq hL hb ha hI => ?_, fun L gx wq hL hb ha hI => ?_, trivial⟩
                      · exact Gives.plain (v := u9) (w' := wq) (by kernel_rfl) rfl hI
                      · exact Gives.plain (v := .int .i64 (↑n)) (w' := wq) (by kernel_rfl) rfl hI
                      · exact Gives.plain (v := .int .i64 (↑i)) (w' := wq) (by kernel_rfl) rfl hI
                      · exact Gives.plain (v := .slice (some ad2) rs.length cap) (w' := wq) (by kernel_rfl) rfl hI
                      · exact Gives.plain (v := .slice (some ad2) rs.length cap) (w' := wq) (by kernel_rfl) rfl hI
                      · exact Gives.plain (v := .slice (some ad) ts.length cT) (w' := wq) (by kernel_rfl) rfl hI
                      · exact Gives.plain (v := .int .i64 (↑i)) (w' := wq) (by kernel_rfl) rfl hI
                      · exact Gives.plain (v := .int .i64 (↑(i + 1 + m9))) (w' := wq) (by kernel_rfl) rfl hI
                      · have e5 : L 22 = false := ha 22 (by kernel_rfl)
                        have hX := hI.below (congrArg some e5)
                        refine Gives.call (f := 33) (args := #[.slice (some ad2) rs.length cap, .slice (some ad) ts.length cT, .int .i64 (↑i), .int .i64 ((i + 1 + m9 : Nat) : Int)]) (w' := wq) (by kernel_rfl) ((HA1.out wq (HB.out.trans (hX.mono HB.out.size))).mono ?_)
                        rintro e wa ⟨v, rfl, ho, hb2⟩
                        exact ⟨_, rfl, {gx with a := v}, rfl, (KeepsV.of_same ⟨.inr (.inr rfl), .inr (.inr rfl), .inr (.inr rfl), .inr (.inr rfl), .inr (.inr rfl), .inr (.inr rfl), .inr (.inr rfl), .inr (.inr rfl), .inl rfl, .inr (.inr rfl), .inr (.inr rfl), (by first | exact .inr (.inr rfl) | exact .inr (.inl (by kernel_rfl))), .inr (.inr rfl), .inr (.inr rfl), .inr (.inr rfl), .inr (.inr rfl), .inr (.inr rfl), (by first | exact .inr (.inr rfl) | exact .inr (.inl (by kernel_rfl))), .inr (.inr rfl), .inr (.inr rfl), (by first | exact .inr (.inr rfl) | exact .inr (.inl (by kernel_rfl))), (by first | exact .inr (.inr rfl) | exact .inr (.inl (by kernel_rfl))), (by first | exact .inr (.inr rfl) | exact .inr (.inl (by kernel_rfl))), (by first | exact .inr (.inr rfl) | exact .inr (.inl (by kernel_rfl))), trivial⟩), InvA.s0 e5 hI hb2 ho⟩
                      · exact Gives.plain (v := .pointer (some ⟨g0, 4, none⟩)) (w' := wq) (by simp [go_sem, evAct]) rfl hI
                      · have e5 : L 22 = false := ha 22 (by kernel_rfl); have hX := hI.below (congrArg some e5); have cu := (keep hX HK.out).cell 4
                        exact Gives.plain (v := .int .i64 u.left) (w' := wq) (by simp [go_sem, evAct, cu]) rfl hI
                      · have e5 : L 22 = false := ha 22 (by kernel_rfl)
                        have hX := hI.below (congrArg some e5)
                        have ex : L 8 = true := hb 8 (by kernel_rfl)
                        obtain ⟨ga, gb, gc, gd, ge, gf⟩ := gx
                        obtain ⟨A1, c1, e1, h1⟩ := InvA.list ((hI.1 (congrArg some e5)).2.1 (congrArg some ex)) (fun b h => h)
                        obtain rfl : ga = _ := e1
                        refine Gives.call (f := 51) (args := #[.slice (some ad2) rs.length cap, .slice A1 (allR rs ts i (i + 1 + m9)).length c1, .int .i64 u.left]) (w' := wq) (by kernel_rfl) ((rleast_any (fun b => wr.heap.size ≤ b) (some ad2) A1 cap c1 rs (allR rs ts i (i + 1 + m9)) u.left wq (HR7.out.keep hX) h1 (fun x hx => (all_rule hx).2) HL1.out).mono ?_)
                        rintro e wa ⟨v, rfl, ho, hb2⟩
                        exact ⟨_, rfl, ⟨_, v, gc, gd, ge, gf⟩, rfl, (KeepsV.of_same ⟨.inr (.inr rfl), .inr (.inr rfl), .inr (.inr rfl), .inr (.inr rfl), .inr (.inr rfl), .inr (.inr rfl), .inr (.inr rfl), .inr (.inr rfl), (by first | exact .inr (.inr rfl) | exact .inr (.inl (by kernel_rfl))), .inr (.inr rfl), .inr (.inr rfl), .inl rfl, .inr (.inr rfl), .inr (.inr rfl), .inr (.inr rfl), .inr (.inr rfl), .inr (.inr rfl), (by first | exact .inr (.inr rfl) | exact .inr (.inl (by kernel_rfl))), .inr (.inr rfl), .inr (.inr rfl), (by first | exact .inr (.inr rfl) | exact .inr (.inl (by kernel_rfl))), (by first | exact .inr (.inr rfl) | exact .inr (.inl (by kernel_rfl))), (by first | exact .inr (.inr rfl) | exact .inr (.inl (by kernel_rfl))), (by first | exact .inr (.inr rfl) | exact .inr (.inl (by kernel_rfl))), trivial⟩), InvA.s1 e5 hI hb2 ho⟩
                      · exact Gives.plain (v := .slice (some ad2) rs.length cap) (w' := wq) (by kernel_rfl) rfl hI
                      · exact Gives.plain (v := .slice (some ad2) rs.length cap) (w' := wq) (by kernel_rfl) rfl hI
                      · exact Gives.plain (v := .slice (some ad) ts.length cT) (w' := wq) (by kernel_rfl) rfl hI
                      · exact Gives.plain (v := .int .i64 (↑(i + 1 + m9))) (w' := wq) (by kernel_rfl) rfl hI
                      · exact Gives.plain (v := .int .i64 (↑j)) (w' := wq) (by kernel_rfl) rfl hI
                      · have e5 : L 22 = false := ha 22 (by kernel_rfl)
                        have hX := hI.below (congrArg some e5)
                        refine Gives.call (f := 33) (args := #[.slice (some ad2) rs.length cap, .slice (some ad) ts.length cT, .int .i64 ((i + 1 + m9 : Nat) : Int), .int .i64 (↑j)]) (w' := wq) (by kernel_rfl) ((HA2.out wq (HB.out.trans (hX.mono HB.out.size))).mono ?_)
                        rintro e wa ⟨v, rfl, ho, hb2⟩
                        exact ⟨_, rfl, {gx with c := v}, rfl, (KeepsV.of_same ⟨.inr (.inr rfl), .inr (.inr rfl), .inr (.inr rfl), .inr (.inr rfl), .inr (.inr rfl), .inr (.inr rfl), .inr (.inr rfl), .inr (.inr rfl), (by first | exact .inr (.inr rfl) | exact .inr (.inl (by kernel_rfl))), .inr (.inr rfl), .inr (.inr rfl), (by first | exact .inr (.inr rfl) | exact .inr (.inl (by kernel_rfl))), .inr (.inr rfl), .inr (.inr rfl), .inr (.inr rfl), .inr (.inr rfl), .inr (.inr rfl), .inl rfl, .inr (.inr rfl), .inr (.inr rfl), (by first | exact .inr (.inr rfl) | exact .inr (.inl (by kernel_rfl))), (by first | exact .inr (.inr rfl) | exact .inr (.inl (by kernel_rfl))), (by first | exact .inr (.inr rfl) | exact .inr (.inl (by kernel_rfl))), (by first | exact .inr (.inr rfl) | exact .inr (.inl (by kernel_rfl))), trivial⟩), InvA.s2 e5 hI hb2 ho⟩
                      · exact Gives.plain (v := .pointer (some ⟨g0, 5, none⟩)) (w' := wq) (by simp [go_sem, evAct]) rfl hI
                      · have e5 : L 22 = false := ha 22 (by kernel_rfl); have hX := hI.below (congrArg some e5); have cu := (keep hX HK.out).cell 5
                        exact Gives.plain (v := .int .i64 u.right) (w' := wq) (by simp [go_sem, evAct, cu]) rfl hI
                      · have e5 : L 22 = false := ha 22 (by kernel_rfl)
                        have hX := hI.below (congrArg some e5)
                        have ex : L 17 = true := hb 17 (by kernel_rfl)
                        obtain ⟨ga, gb, gc, gd, ge, gf⟩ := gx
                        obtain ⟨A1, c1, e1, h1⟩ := InvA.list ((hI.1 (congrArg some e5)).2.2.2.1 (congrArg some ex)) (fun b h => h)
                        obtain rfl : gc = _ := e1
                        refine Gives.call (f := 51) (args := #[.slice (some ad2) rs.length cap, .slice A1 (allR rs ts (i + 1 + m9) j).length c1, .int .i64 u.right]) (w' := wq) (by kernel_rfl) ((rleast_any (fun b => wr.heap.size ≤ b) (some ad2) A1 cap c1 rs (allR rs ts (i + 1 + m9) j) u.right wq (HR7.out.keep hX) h1 (fun x hx => (all_rule hx).2) HL3.out).mono ?_)
                        rintro e wa ⟨v, rfl, ho, hb2⟩
                        exact ⟨_, rfl, ⟨ga, gb, _, v, ge, gf⟩, rfl, (KeepsV.of_same ⟨.inr (.inr rfl), .inr (.inr rfl), .inr (.inr rfl), .inr (.inr rfl), .inr (.inr rfl), .inr (.inr rfl), .inr (.inr rfl), .inr (.inr rfl), (by first | exact .inr (.inr rfl) | exact .inr (.inl (by kernel_rfl))), .inr (.inr rfl), .inr (.inr rfl), (by first | exact .inr (.inr rfl) | exact .inr (.inl (by kernel_rfl))), .inr (.inr rfl), .inr (.inr rfl), .inr (.inr rfl), .inr (.inr rfl), .inr (.inr rfl), (by first | exact .inr (.inr rfl) | exact .inr (.inl (by kernel_rfl))), .inr (.inr rfl), .inr (.inr rfl), .inl rfl, (by first | exact .inr (.inr rfl) | exact .inr (.inl (by kernel_rfl))), (by first | exact .inr (.inr rfl) | exact .inr (.inl (by kernel_rfl))), (by first | exact .inr (.inr rfl) | exact .inr (.inl (by kernel_rfl))), trivial⟩), InvA.s3 e5 hI hb2 ho⟩
                      · have e5 : L 22 = false := ha 22 (by kernel_rfl)
                        have hX := hI.below (congrArg some e5)
                        have ex : L 11 = true := hb 11 (by kernel_rfl)
                        have ey : L 20 = true := hb 20 (by kernel_rfl)
                        obtain ⟨ga, gb, gc, gd, ge, gf⟩ := gx
                        obtain ⟨A1, c1, e1, h1⟩ := InvA.list ((hI.1 (congrArg some e5)).2.2.1 (congrArg some ex)) (fun b h => h)
                        obtain ⟨A2, c2, e2, h2⟩ := InvA.list ((hI.1 (congrArg some e5)).2.2.2.2.1 (congrArg some ey)) (fun b h => h)
                        obtain rfl : gb = _ := e1
                        obtain rfl : gd = _ := e2
                        refine Gives.call (f := 50) (args := #[.int .i64 (↑n), .int .i64 (↑i), .slice A1 (leastR rs (allR rs ts i (i + 1 + m9)) u.left).length c1, .slice A2 (leastR rs (allR rs ts (i + 1 + m9) j) u.right).length c2]) (w' := wq) (by kernel_rfl) ((pairs_any (fun b => wr.heap.size ≤ b) A1 A2 c1 c2 n i (leastR rs (allR rs ts i (i + 1 + m9)) u.left) (leastR rs (allR rs ts (i + 1 + m9) j) u.right) wq h1 h2 HPL.out HPM.out).mono ?_)
                        rintro e wa ⟨v, rfl, ho, hb2⟩
                        exact ⟨_, rfl, ⟨ga, _, gc, _, v, gf⟩, rfl, (KeepsV.of_same ⟨.inr (.inr rfl), .inr (.inr rfl), .inr (.inr rfl), .inr (.inr rfl), .inr (.inr rfl), .inr (.inr rfl), .inr (.inr rfl), .inr (.inr rfl), (by first | exact .inr (.inr rfl) | exact .inr (.inl (by kernel_rfl))), .inr (.inr rfl), .inr (.inr rfl), (by first | exact .inr (.inr rfl) | exact .inr (.inl (by kernel_rfl))), .inr (.inr rfl), .inr (.inr rfl), .inr (.inr rfl), .inr (.inr rfl), .inr (.inr rfl), (by first | exact .inr (.inr rfl) | exact .inr (.inl (by kernel_rfl))), .inr (.inr rfl), .inr (.inr rfl), (by first | exact .inr (.inr rfl) | exact .inr (.inl (by kernel_rfl))), .inl rfl, (by first | exact .inr (.inr rfl) | exact .inr (.inl (by kernel_rfl))), (by first | exact .inr (.inr rfl) | exact .inr (.inl (by kernel_rfl))), trivial⟩), InvA.s4 e5 hI hb2 ho⟩
                      · have e5 : L 22 = false := hL
                        have x0 : L 8 = true := hb 8 (by kernel_rfl)
                        have x1 : L 11 = true := hb 11 (by kernel_rfl)
                        have x2 : L 17 = true := hb 17 (by kernel_rfl)
                        have x3 : L 20 = true := hb 20 (by kernel_rfl)
                        have x4 : L 21 = true := hb 21 (by kernel_rfl)
                        simp only [List.map, e5, x0, x1, x2, x3, x4] at hI ⊢
                        refine InvA.append (.tmp 172) (.tmp 193) rfl hi hz0 hz1 hz2 (by kernel_rfl) (by kernel_rfl) hI HO.out HB.out HLN.out ?_
                        intro v' w' h9
                        exact ⟨{gx with f := v'}, rfl, (KeepsV.of_same ⟨.inr (.inr rfl), .inr (.inr rfl), .inr (.inr rfl), .inr (.inr rfl), .inr (.inr rfl), .inr (.inr rfl), .inr (.inr rfl), .inr (.inr rfl), (by first | exact .inr (.inr rfl) | exact .inr (.inl (by kernel_rfl))), .inr (.inr rfl), .inr (.inr rfl), (by first | exact .inr (.inr rfl) | exact .inr (.inl (by kernel_rfl))), .inr (.inr rfl), .inr (.inr rfl), .inr (.inr rfl), .inr (.inr rfl), .inr (.inr rfl), (by first | exact .inr (.inr rfl) | exact .inr (.inl (by kernel_rfl))), .inr (.inr rfl), .inr (.inr rfl), (by first | exact .inr (.inr rfl) | exact .inr (.inl (by kernel_rfl))), (by first | exact .inr (.inr rfl) | exact .inr (.inl (by kernel_rfl))), .inl rfl, (by first | exact .inr (.inr rfl) | exact .inr (.inl (by kernel_rfl))), trivial⟩), h9⟩
                      · exact Gives.plain (v := gx.f) (w' := wq) (by kernel_rfl) rfl hI
                    · intro gx wq hI
                      have hI := hI.2 rfl
                      have HO := Lib.hid hI.1
                      have HB := Lib.hid hI.2.1
                      have HKF := Lib.hid (hI.2.2 _ _ _ HK.out HF.out)
                      have HK := Lib.hid HKF.out.1
                      have HF := Lib.hid HKF.out.2
                      clear hI HKF HA1 HA2
                      rw [← HPT.out] at HO
                      generalize gx.f = v9 at *
                      go_wp2_with fail
                      go_roundw
                      case rel => exact ⟨m9 + 1, by omega, by go_num, HO, HB, HK, HF⟩
                      case measure => simp [intOf]; omega
                  · obtain rfl : m9 = j - (i + 1) := by omega
                    have j5 : ¬ ((i + 1 + (j - (i + 1)) : Nat) : Int) < (j : Int) := by have := HIJ.out; omega
                    have HE := Lib.hid (show preR rs ts i j (n + 1) = preR rs ts i j n ++ (List.range' (i + 1) (j - (i + 1))).flatMap (juxG rs ts i j n u) by rw [HPN.out, HN.out])
                    rw [← HE.out] at HO
                    go_wp2_with fail
                    go_roundw
                    case rel => exact ⟨n + 1, by omega, by go_num, HO, HB⟩
                    case measure => simp [intOf]; omega
              have HN := Lib.hid (rule_none (ts := ts) (i := i) (j := j) HU.out q1 q2 q3 q4)
              rw [HN.out, List.append_nil] at HPN
              rw [← HPN.out] at HO
              have b1 : (u.kind == 1) = false := beq_eq_false_iff_ne.2 q1
              have b2 : (u.kind == 2) = false := beq_eq_false_iff_ne.2 q2
              have b3 : (u.kind == 3) = false := beq_eq_false_iff_ne.2 q3
              have b4 : (u.kind == 4) = false := beq_eq_false_iff_ne.2 q4
              clear q1 q2 q3 q4
              go_wp2_with fail
              go_roundw
              case rel => exact ⟨n + 1, by omega, by go_num, HO, HB⟩
              case measure => simp [intOf]; omega
            · obtain rfl : n = rs.length := by omega
              have HA := Lib.hid (all_body (rs := rs) (ts := ts) HIJ.out)
              rw [← HA.out] at HO
              go_wp2_with fail
              go_ret
              exact ⟨_, rfl, HO.out, HB.out⟩
end Go.Proofs.Ytmhddlhlniajpaa
