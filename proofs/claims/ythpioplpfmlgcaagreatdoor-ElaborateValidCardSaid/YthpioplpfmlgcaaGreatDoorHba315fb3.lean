/- node, Valid and ValidItems of the program. -/
import Derived.Test.YthpioplpfmlgcaaGreatDoorH593501a0
namespace Go.Proofs.YthpioplpfmlgcaaGreatDoor.At
open Go.RowKit
theorem chkL_app (k : Int) : ∀ (a b : List Tre) (D n : Nat), chkL k (a ++ b) D n = if (chkL k a D n).1 = true then chkL k b D (chkL k a D n).2 else chkL k a D n
  | [], b, D, n => by rw [List.nil_append, show chkL k [] D n = (true, n) by rw [chkL]]; rfl
  | x :: a, b, D, n => by
    rw [List.cons_append, chkL, chkL]
    cases badPair k x.kind
    · cases hc : (chkT x D n).1
      · simp only [Bool.false_eq_true, ↓reduceIte]
      · simp only [Bool.false_eq_true, ↓reduceIte]
        exact chkL_app k a b D _
    · simp only [Bool.false_eq_true, ↓reduceIte]
theorem chkL_snoc {k : Int} {ks : List Tre} {j D n nj : Nat} {y : Tre} (hy : ks[j]? = some y) (h : chkL k (ks.take j) D n = (true, nj)) : chkL k (ks.take (j + 1)) D n = if badPair k y.kind then (false, nj) else ((chkT y D nj).1, (chkT y D nj).2) := by
  rw [List.take_add_one, hy, Option.toList, chkL_app, h, if_pos rfl, chkL]
  cases badPair k y.kind
  · cases hc : (chkT y D nj).1
    · simp only [Bool.false_eq_true, ↓reduceIte]
    · simp only [Bool.false_eq_true, ↓reduceIte, chkL]
  · simp only [↓reduceIte]
theorem chkL_stop {k : Int} {ks : List Tre} {j D n : Nat} (h : (chkL k (ks.take j) D n).1 = false) : chkL k ks D n = chkL k (ks.take j) D n := by
  conv => lhs; rw [← List.take_append_drop j ks]
  rw [chkL_app, h, if_neg (by simp)]
def InvC (gc n1 n2 : Nat) : List Bool → World → Prop
  | [true], w => Hid (Blk w gc 100 (chkC n2))
  | _, w => Hid (Blk w gc 100 (chkC n1))
theorem chk_set (n : Int) (v : Int) : (chkC n).setIfInBounds 39 (.int .i64 v) = chkC v := rfl
theorem chk_39 (n : Int) : (chkC n)[39]? = some (.int .i64 n) := rfl
set_option maxRecDepth 100000 in
set_option maxHeartbeats 4000000 in
theorem node_any : ∀ (m : Nat) (t : Tre) (p : Addr) (A : Option Addr) (cap gc n d : Nat) (w0 w : World), countT t < m → PtrAt w0 p t A cap → Below w0.heap.size w0 w → Blk w gc 100 (chkC n) → w0.heap.size ≤ gc → n ≤ 1000 → d ≤ 25 → Calls Tryz.prog 61 #[.pointer (some ⟨gc, 0, none⟩), .pointer (some p), .int .i64 (d : Int)] w fun e w' => e = .returned (.bool (chkT t d n).1) ∧ Blk w' gc 100 (chkC (chkT t d n).2) ∧ Below w0.heap.size w0 w' := by
  intro m
  induction m with
  | zero => intro t p A cap gc n d w0 w h; omega
  | succ m ih =>
    intro t p A cap gc n d w0 w hm hP hB hC hgc hn hd
    have IH := Lib.hid ih
    clear ih
    obtain ⟨k, s, cols, ks⟩ := t
    have HP := Lib.hid hP
    have HM := Lib.hid hm
    have HQ0 := Lib.hid (show chkT (.mk k s cols ks) d n = if 1000 < n + 1 ∨ 24 < d ∨ ownT k s.data.toList cols ks.length = false then (false, n + 1) else chkL k ks (d + 1) (n + 1) by rw [chkT])
    have f0 := hC.frozen 39
    have f1 := hC.cell 39
    rw [chk_39] at f1
    have HC1 := Lib.hid (show Blk (w.setCell ⟨gc, 39, none⟩ (.int .i64 ((n : Int) + 1))) gc 100 (chkC (n + 1 : Nat)) by
      have := hC.set_ 39 (.int .i64 ((n : Int) + 1))
      rw [chk_set] at this
      exact this)
    have HB1 := Lib.hid (hB.setCell (p := ⟨gc, 39, none⟩) hgc (.int .i64 ((n : Int) + 1)))
    clear hP hB hC hm
    go_enter Tryz.func61, Tryz.ntmps61
    by_cases h1 : 1000 < n + 1
    · have HQ := Lib.hid (show chkT (.mk k s cols ks) d n = (false, n + 1) by rw [HQ0.out, if_pos (.inl h1)])
      go_wp2_with fail
      go_ret
      exact ⟨ret_bool (by rw [HQ.out]), by rw [HQ.out]; exact HC1.out, HB1.out⟩
    by_cases h2 : 24 < d
    · have HQ := Lib.hid (show chkT (.mk k s cols ks) d n = (false, n + 1) by rw [HQ0.out, if_pos (.inr (.inl h2))])
      go_wp2_with fail
      go_ret
      exact ⟨ret_bool (by rw [HQ.out]), by rw [HQ.out]; exact HC1.out, HB1.out⟩
    have f2 := HC1.out.cell 39
    rw [chk_39] at f2
    go_wp2_with fail
    generalize w.setCell ⟨gc, 39, none⟩ (.int .i64 ((n : Int) + 1)) = w1 at *
    clear f0 f1 f2
    refine (own_any gc (n + 1 : Nat) p k s cols ks A cap w1 (HP.out.keep HB1.out) HC1.out).mono ?_
    rintro e w2 ⟨rfl, hb⟩
    have HC := Lib.hid (keep hb HC1.out)
    have HB := Lib.hid (HB1.out.trans (hb.mono HB1.out.size))
    clear hb HC1 HB1
    cases ho : ownT k s.data.toList cols ks.length
    · have HQ := Lib.hid (show chkT (.mk k s cols ks) d n = (false, n + 1) by rw [HQ0.out, if_pos (.inr (.inr ho))])
      clear ho
      go_wp2_with fail
      go_ret
      exact ⟨ret_bool (by rw [HQ.out]), by rw [HQ.out]; exact HC.out, HB.out⟩
    rw [if_neg (by rintro (h | h | h); exact h1 h; exact h2 h; rw [ho] at h; cases h)] at HQ0
    clear ho
    have d3 : w2.cell? ⟨p.block, p.off + 3, none⟩ = some (.slice A ks.length cap) := (HP.out.keep HB.out).kids
    have hlen := HP.out.len
    have hcap := HP.out.capl
    dsimp only [Tre.kids] at hlen
    have hwd : IntKind.i64.wrap ((d : Int) + 1) = ((d : Int) + 1) := IntWalk.i64_in _ (by omega)
    have HWD := Lib.hid hwd
    clear hwd
    go_wp2_with fail
    clear d3
    go_loopw [35] (fun i wr => ∃ (j nj : Nat), j ≤ ks.length ∧ i = .int .i64 j ∧ nj ≤ 1000 ∧ Hid (chkL k (ks.take j) (d + 1) (n + 1) = (true, nj)) ∧ Hid (Blk wr gc 100 (chkC nj)) ∧ Hid (Below w0.heap.size w0 wr)) (fun i _ => ks.length - (intOf i).toNat)
    case atStart => exact ⟨0, n + 1, by omega, rfl, by omega, Lib.hid (show chkL k (ks.take 0) (d + 1) (n + 1) = (true, n + 1) by rw [List.take_zero, chkL]), HC, HB⟩
    case round =>
      clear HC HB
      obtain ⟨j, nj, hj, rfl, hnj, HX, HC, HB⟩ := hrel
      by_cases hlt : j < ks.length
      · obtain ⟨y, hy⟩ : ∃ y, ks[j]? = some y := ⟨_, List.getElem?_eq_getElem hlt⟩
        obtain ⟨ad, A3, cap3, rfl, hY⟩ := HP.out.down.ptr hy
        have HY := Lib.hid hY
        have hcy := count_kid hy
        have HSN := Lib.hid (chkL_snoc hy HX.out)
        have HCU : Hid (countT y < m) := by have h1 := HM.out; show _ < _; rw [countT] at h1; omega
        have HI := Lib.hid ((chkT_iff y (d + 1) nj hnj))
        obtain ⟨ky, sy, cy, ksy⟩ := y
        clear hy hY hcy
        rw [tre_kind] at HSN
        have HBP := Lib.hid (show ((k == 1) == (ky == 1)) = badPair k ky by rw [← badPair_eq]; cases (k == 1) <;> cases (ky == 1) <;> rfl)
        go_upto_region 7 with (fail)
        have hwd := HWD.out
        cases hbp : ((k == 1) == (ky == 1))
        · rw [hbp] at HBP
          rw [← HBP.out, if_neg (by simp)] at HSN
          obtain ⟨n2, hn2⟩ : ∃ n2, n2 = (chkT (.mk ky sy cy ksy) (d + 1) nj).2 := ⟨_, rfl⟩
          have HN2 := Lib.hid hn2
          clear hn2
          cases hfv : (chkT (.mk ky sy cy ksy) (d + 1) nj).1
          · have HFV := Lib.hid hfv
            have HQ := Lib.hid (show chkT (.mk k s cols ks) d n = (false, n2) by rw [HQ0.out, chkL_stop (j := j + 1) (by rw [HSN.out]; exact hfv), HSN.out, hfv, HN2.out])
            clear hfv
            refine region_stage (by kernel_rfl) _ [.pointer (some p), .pointer (some p), .pointer (some p), .int .i64 k, .bool (k == 1), .pointer (some p), .pointer (some p), .pointer (some ⟨p.block, p.off + 3, none⟩), .slice (some ad) ks.length cap, .int .i64 j, .pointer (some (ad.add (j * 4))), .pointer (some (ad.add (j * 4))), .int .i64 ky, .bool (ky == 1), .bool false, .bool false, .pointer (some ⟨gc, 0, none⟩), .pointer (some p), .pointer (some p), .pointer (some ⟨p.block, p.off + 3, none⟩), .slice (some ad) ks.length cap, .int .i64 j, .pointer (some (ad.add (j * 4))), .int .i64 (d : Int), .int .i64 ((d + 1 : Nat) : Int), .bool false, .bool true, .bool true] [true, true, true, true, true, true, true, true, true, true, true, true, true, true, true, true, true, true, true, true, true, true, true, true, true, true, true, true] [25] (fun L wq => Hid (Below w0.heap.size w0 wq) ∧ InvC gc nj n2 L wq) (by kernel_rfl) (by simp [fin, finOn, dstAt, List.range, List.range.loop, Act.put]; rfl) (by kernel_rfl) (by kernel_rfl) ⟨below_drew HB.out, Lib.hid HC.out.drew⟩ ?_ ?_
            · refine ⟨fun L wq hL hb ha hI => ?_, fun L wq hL hb ha hI => ?_, fun L wq hL hb ha hI => ?_, fun L wq hL hb ha hI => ?_, fun L wq hL hb ha hI => ?_, fun L wq hL hb ha hI => ?_, fun L wq hL hb ha hI => ?_, fun L wq hL hb ha hI => ?_, fun L wq hL hb ha hI => ?_, fun L wq hL hb ha hI => ?_, fun L wq hL hb ha hI => ?_, fun L wq hL hb ha hI => ?_, fun L wq hL hb ha hI => ?_, fun L wq hL hb ha hI => ?_, fun L wq hL hb ha hI => ?_, fun L wq hL hb ha hI => ?_, fun L wq hL hb ha hI => ?_, fun L wq hL hb ha hI => ?_, fun L wq hL hb ha hI => ?_, fun L wq hL hb ha hI => ?_, fun L wq hL hb ha hI => ?_, fun L wq hL hb ha hI => ?_, fun L wq hL hb ha hI => ?_, fun L wq hL hb ha hI => ?_, fun L wq hL hb ha hI => ?_, fun L wq hL hb ha hI => ?_, fun L wq hL hb ha hI => ?_, fun L wq hL hb ha hI => ?_, trivial⟩
              · exact Gives.value (v := .pointer (some p)) (w' := wq) (by kernel_rfl) ⟨rfl, hI⟩
              · exact Gives.value (v := .pointer (some p)) (w' := wq) (by simp [go_sem]) ⟨rfl, hI⟩
              · exact Gives.value (v := .pointer (some p)) (w' := wq) (by simp [go_sem]) ⟨rfl, hI⟩
              · have cJ : wq.cell? p = some (.int .i64 k) := (HP.out.keep hI.1.out).kind
                exact Gives.value (v := .int .i64 k) (w' := wq) (by simp [go_sem, cJ]) ⟨rfl, hI⟩
              · exact Gives.value (v := .bool (k == 1)) (w' := wq) (by simp [go_sem]) ⟨rfl, hI⟩
              · exact Gives.value (v := .pointer (some p)) (w' := wq) (by kernel_rfl) ⟨rfl, hI⟩
              · exact Gives.value (v := .pointer (some p)) (w' := wq) (by simp [go_sem]) ⟨rfl, hI⟩
              · exact Gives.value (v := .pointer (some ⟨p.block, p.off + 3, none⟩)) (w' := wq) (by simp [go_sem]) ⟨rfl, hI⟩
              · have cJ : wq.cell? ⟨p.block, p.off + 3, none⟩ = some (.slice (some ad) ks.length cap) := (HP.out.keep hI.1.out).kids
                exact Gives.value (v := .slice (some ad) ks.length cap) (w' := wq) (by simp [go_sem, cJ]) ⟨rfl, hI⟩
              · exact Gives.value (v := .int .i64 j) (w' := wq) (by kernel_rfl) ⟨rfl, hI⟩
              · skip
                exact Gives.value (v := .pointer (some (ad.add (j * 4)))) (w' := wq) (by simp [go_sem, hlt]; try omega) ⟨rfl, hI⟩
              · exact Gives.value (v := .pointer (some (ad.add (j * 4)))) (w' := wq) (by simp [go_sem]) ⟨rfl, hI⟩
              · have cJ : wq.cell? (ad.add (j * 4)) = some (.int .i64 ky) := (HY.out.keep hI.1.out).kind
                exact Gives.value (v := .int .i64 ky) (w' := wq) (by simp [go_sem, cJ]) ⟨rfl, hI⟩
              · exact Gives.value (v := .bool (ky == 1)) (w' := wq) (by simp [go_sem]) ⟨rfl, hI⟩
              · skip
                exact Gives.value (v := .bool false) (w' := wq) (by simp [go_sem, hbp]) ⟨rfl, hI⟩
              · exact Gives.value (v := .bool false) (w' := wq) (by kernel_rfl) ⟨rfl, hI⟩
              · exact Gives.value (v := .pointer (some ⟨gc, 0, none⟩)) (w' := wq) (by kernel_rfl) ⟨rfl, hI⟩
              · exact Gives.value (v := .pointer (some p)) (w' := wq) (by kernel_rfl) ⟨rfl, hI⟩
              · exact Gives.value (v := .pointer (some p)) (w' := wq) (by simp [go_sem]) ⟨rfl, hI⟩
              · exact Gives.value (v := .pointer (some ⟨p.block, p.off + 3, none⟩)) (w' := wq) (by simp [go_sem]) ⟨rfl, hI⟩
              · have cJ : wq.cell? ⟨p.block, p.off + 3, none⟩ = some (.slice (some ad) ks.length cap) := (HP.out.keep hI.1.out).kids
                exact Gives.value (v := .slice (some ad) ks.length cap) (w' := wq) (by simp [go_sem, cJ]) ⟨rfl, hI⟩
              · exact Gives.value (v := .int .i64 j) (w' := wq) (by kernel_rfl) ⟨rfl, hI⟩
              · skip
                exact Gives.value (v := .pointer (some (ad.add (j * 4)))) (w' := wq) (by simp [go_sem, hlt]; try omega) ⟨rfl, hI⟩
              · exact Gives.value (v := .int .i64 (d : Int)) (w' := wq) (by kernel_rfl) ⟨rfl, hI⟩
              · skip
                exact Gives.value (v := .int .i64 ((d + 1 : Nat) : Int)) (w' := wq) (by simp [go_sem, hwd]) ⟨rfl, hI⟩
              · have e8 : L 25 = false := hL
                simp only [List.map, e8] at hI
                refine Gives.call (f := 61) (args := #[.pointer (some ⟨gc, 0, none⟩), .pointer (some (ad.add (j * 4))), .int .i64 ((d + 1 : Nat) : Int)]) (w' := wq) (by kernel_rfl) ((IH.out (.mk ky sy cy ksy) (ad.add (j * 4)) A3 cap3 gc nj (d + 1) w0 wq HCU.out HY.out hI.1.out hI.2.out hgc hnj (by omega)).mono ?_)
                rintro e wa ⟨rfl, hb5, hb6⟩
                exact ⟨_, rfl, by rw [HFV.out], hb6, show Hid (Blk wa gc 100 (chkC n2)) from Lib.hid (by rw [HN2.out]; exact hb5)⟩
              · exact Gives.value (v := .bool true) (w' := wq) (by simp [go_sem]) ⟨rfl, hI⟩
              · exact Gives.value (v := .bool true) (w' := wq) (by kernel_rfl) ⟨rfl, hI⟩
            · intro wq hI
              have HB := hI.1
              have HC := hI.2
              clear hI
              go_wp2_with fail
              go_ret
              exact ⟨ret_bool (by rw [HQ.out]), by rw [HQ.out]; exact HC.out, HB.out⟩
          · have HFV := Lib.hid hfv
            have HS := Lib.hid (show chkL k (ks.take (j + 1)) (d + 1) (n + 1) = (true, n2) by rw [HSN.out, hfv, HN2.out])
            have HN22 := Lib.hid (show n2 ≤ 1000 by have h3 := HI.out.1.1 hfv; have h4 := HI.out.2 hfv; rw [HN2.out, h4]; exact h3.2.2)
            clear hfv
            refine region_stage (by kernel_rfl) _ [.pointer (some p), .pointer (some p), .pointer (some p), .int .i64 k, .bool (k == 1), .pointer (some p), .pointer (some p), .pointer (some ⟨p.block, p.off + 3, none⟩), .slice (some ad) ks.length cap, .int .i64 j, .pointer (some (ad.add (j * 4))), .pointer (some (ad.add (j * 4))), .int .i64 ky, .bool (ky == 1), .bool false, .bool false, .pointer (some ⟨gc, 0, none⟩), .pointer (some p), .pointer (some p), .pointer (some ⟨p.block, p.off + 3, none⟩), .slice (some ad) ks.length cap, .int .i64 j, .pointer (some (ad.add (j * 4))), .int .i64 (d : Int), .int .i64 ((d + 1 : Nat) : Int), .bool true, .bool false, .bool false] [true, true, true, true, true, true, true, true, true, true, true, true, true, true, true, true, true, true, true, true, true, true, true, true, true, true, true, true] [25] (fun L wq => Hid (Below w0.heap.size w0 wq) ∧ InvC gc nj n2 L wq) (by kernel_rfl) (by simp [fin, finOn, dstAt, List.range, List.range.loop, Act.put]; rfl) (by kernel_rfl) (by kernel_rfl) ⟨below_drew HB.out, Lib.hid HC.out.drew⟩ ?_ ?_
            · refine ⟨fun L wq hL hb ha hI => ?_, fun L wq hL hb ha hI => ?_, fun L wq hL hb ha hI => ?_, fun L wq hL hb ha hI => ?_, fun L wq hL hb ha hI => ?_, fun L wq hL hb ha hI => ?_, fun L wq hL hb ha hI => ?_, fun L wq hL hb ha hI => ?_, fun L wq hL hb ha hI => ?_, fun L wq hL hb ha hI => ?_, fun L wq hL hb ha hI => ?_, fun L wq hL hb ha hI => ?_, fun L wq hL hb ha hI => ?_, fun L wq hL hb ha hI => ?_, fun L wq hL hb ha hI => ?_, fun L wq hL hb ha hI => ?_, fun L wq hL hb ha hI => ?_, fun L wq hL hb ha hI => ?_, fun L wq hL hb ha hI => ?_, fun L wq hL hb ha hI => ?_, fun L wq hL hb ha hI => ?_, fun L wq hL hb ha hI => ?_, fun L wq hL hb ha hI => ?_, fun L wq hL hb ha hI => ?_, fun L wq hL hb ha hI => ?_, fun L wq hL hb ha hI => ?_, fun L wq hL hb ha hI => ?_, fun L wq hL hb ha hI => ?_, trivial⟩
              · exact Gives.value (v := .pointer (some p)) (w' := wq) (by kernel_rfl) ⟨rfl, hI⟩
              · exact Gives.value (v := .pointer (some p)) (w' := wq) (by simp [go_sem]) ⟨rfl, hI⟩
              · exact Gives.value (v := .pointer (some p)) (w' := wq) (by simp [go_sem]) ⟨rfl, hI⟩
              · have cJ : wq.cell? p = some (.int .i64 k) := (HP.out.keep hI.1.out).kind
                exact Gives.value (v := .int .i64 k) (w' := wq) (by simp [go_sem, cJ]) ⟨rfl, hI⟩
              · exact Gives.value (v := .bool (k == 1)) (w' := wq) (by simp [go_sem]) ⟨rfl, hI⟩
              · exact Gives.value (v := .pointer (some p)) (w' := wq) (by kernel_rfl) ⟨rfl, hI⟩
              · exact Gives.value (v := .pointer (some p)) (w' := wq) (by simp [go_sem]) ⟨rfl, hI⟩
              · exact Gives.value (v := .pointer (some ⟨p.block, p.off + 3, none⟩)) (w' := wq) (by simp [go_sem]) ⟨rfl, hI⟩
              · have cJ : wq.cell? ⟨p.block, p.off + 3, none⟩ = some (.slice (some ad) ks.length cap) := (HP.out.keep hI.1.out).kids
                exact Gives.value (v := .slice (some ad) ks.length cap) (w' := wq) (by simp [go_sem, cJ]) ⟨rfl, hI⟩
              · exact Gives.value (v := .int .i64 j) (w' := wq) (by kernel_rfl) ⟨rfl, hI⟩
              · skip
                exact Gives.value (v := .pointer (some (ad.add (j * 4)))) (w' := wq) (by simp [go_sem, hlt]; try omega) ⟨rfl, hI⟩
              · exact Gives.value (v := .pointer (some (ad.add (j * 4)))) (w' := wq) (by simp [go_sem]) ⟨rfl, hI⟩
              · have cJ : wq.cell? (ad.add (j * 4)) = some (.int .i64 ky) := (HY.out.keep hI.1.out).kind
                exact Gives.value (v := .int .i64 ky) (w' := wq) (by simp [go_sem, cJ]) ⟨rfl, hI⟩
              · exact Gives.value (v := .bool (ky == 1)) (w' := wq) (by simp [go_sem]) ⟨rfl, hI⟩
              · skip
                exact Gives.value (v := .bool false) (w' := wq) (by simp [go_sem, hbp]) ⟨rfl, hI⟩
              · exact Gives.value (v := .bool false) (w' := wq) (by kernel_rfl) ⟨rfl, hI⟩
              · exact Gives.value (v := .pointer (some ⟨gc, 0, none⟩)) (w' := wq) (by kernel_rfl) ⟨rfl, hI⟩
              · exact Gives.value (v := .pointer (some p)) (w' := wq) (by kernel_rfl) ⟨rfl, hI⟩
              · exact Gives.value (v := .pointer (some p)) (w' := wq) (by simp [go_sem]) ⟨rfl, hI⟩
              · exact Gives.value (v := .pointer (some ⟨p.block, p.off + 3, none⟩)) (w' := wq) (by simp [go_sem]) ⟨rfl, hI⟩
              · have cJ : wq.cell? ⟨p.block, p.off + 3, none⟩ = some (.slice (some ad) ks.length cap) := (HP.out.keep hI.1.out).kids
                exact Gives.value (v := .slice (some ad) ks.length cap) (w' := wq) (by simp [go_sem, cJ]) ⟨rfl, hI⟩
              · exact Gives.value (v := .int .i64 j) (w' := wq) (by kernel_rfl) ⟨rfl, hI⟩
              · skip
                exact Gives.value (v := .pointer (some (ad.add (j * 4)))) (w' := wq) (by simp [go_sem, hlt]; try omega) ⟨rfl, hI⟩
              · exact Gives.value (v := .int .i64 (d : Int)) (w' := wq) (by kernel_rfl) ⟨rfl, hI⟩
              · skip
                exact Gives.value (v := .int .i64 ((d + 1 : Nat) : Int)) (w' := wq) (by simp [go_sem, hwd]) ⟨rfl, hI⟩
              · have e8 : L 25 = false := hL
                simp only [List.map, e8] at hI
                refine Gives.call (f := 61) (args := #[.pointer (some ⟨gc, 0, none⟩), .pointer (some (ad.add (j * 4))), .int .i64 ((d + 1 : Nat) : Int)]) (w' := wq) (by kernel_rfl) ((IH.out (.mk ky sy cy ksy) (ad.add (j * 4)) A3 cap3 gc nj (d + 1) w0 wq HCU.out HY.out hI.1.out hI.2.out hgc hnj (by omega)).mono ?_)
                rintro e wa ⟨rfl, hb5, hb6⟩
                exact ⟨_, rfl, by rw [HFV.out], hb6, show Hid (Blk wa gc 100 (chkC n2)) from Lib.hid (by rw [HN2.out]; exact hb5)⟩
              · exact Gives.value (v := .bool false) (w' := wq) (by simp [go_sem]) ⟨rfl, hI⟩
              · exact Gives.value (v := .bool false) (w' := wq) (by kernel_rfl) ⟨rfl, hI⟩
            · intro wq hI
              have HB := hI.1
              have HC := hI.2
              clear hI
              go_wp2_with fail
              go_roundw
              case rel => exact ⟨j + 1, n2, by omega, by go_num, HN22.out, HS, HC, HB⟩
              case measure => simp [intOf]; omega
        · rw [hbp] at HBP
          rw [← HBP.out, if_pos rfl] at HSN
          have HQ := Lib.hid (show chkT (.mk k s cols ks) d n = (false, nj) by rw [HQ0.out, chkL_stop (j := j + 1) (by rw [HSN.out]), HSN.out])
          obtain ⟨n2, hn2⟩ : ∃ n2, n2 = nj := ⟨_, rfl⟩
          have HN2 := Lib.hid hn2
          clear hn2
          refine region_list (by kernel_rfl) _ [.pointer (some p), .pointer (some p), .pointer (some p), .int .i64 k, .bool (k == 1), .pointer (some p), .pointer (some p), .pointer (some ⟨p.block, p.off + 3, none⟩), .slice (some ad) ks.length cap, .int .i64 j, .pointer (some (ad.add (j * 4))), .pointer (some (ad.add (j * 4))), .int .i64 ky, .bool (ky == 1), .bool true, .bool true, undef, undef, undef, undef, undef, undef, undef, undef, undef, undef, undef, .bool true] [true, true, true, true, true, true, true, true, true, true, true, true, true, true, true, true, false, false, false, false, false, false, false, false, false, false, false, true] (fun wq => Hid (Below w0.heap.size w0 wq) ∧ Hid (Blk wq gc 100 (chkC nj))) (by kernel_rfl) (by simp [fin, finOn, dstAt, List.range, List.range.loop, Act.put]; rfl) (by kernel_rfl) ⟨below_drew HB.out, Lib.hid HC.out.drew⟩ ?_ ?_
          · refine ⟨fun wq hI => ?_, fun wq hI => ?_, fun wq hI => ?_, fun wq hI => ?_, fun wq hI => ?_, fun wq hI => ?_, fun wq hI => ?_, fun wq hI => ?_, fun wq hI => ?_, fun wq hI => ?_, fun wq hI => ?_, fun wq hI => ?_, fun wq hI => ?_, fun wq hI => ?_, fun wq hI => ?_, fun wq hI => ?_, rfl, rfl, rfl, rfl, rfl, rfl, rfl, rfl, rfl, rfl, rfl, fun wq hI => ?_, trivial⟩
            · exact Gives.value (v := .pointer (some p)) (w' := wq) (by kernel_rfl) ⟨rfl, hI⟩
            · exact Gives.value (v := .pointer (some p)) (w' := wq) (by simp [go_sem]) ⟨rfl, hI⟩
            · exact Gives.value (v := .pointer (some p)) (w' := wq) (by simp [go_sem]) ⟨rfl, hI⟩
            · have cJ : wq.cell? p = some (.int .i64 k) := (HP.out.keep hI.1.out).kind
              exact Gives.value (v := .int .i64 k) (w' := wq) (by simp [go_sem, cJ]) ⟨rfl, hI⟩
            · exact Gives.value (v := .bool (k == 1)) (w' := wq) (by simp [go_sem]) ⟨rfl, hI⟩
            · exact Gives.value (v := .pointer (some p)) (w' := wq) (by kernel_rfl) ⟨rfl, hI⟩
            · exact Gives.value (v := .pointer (some p)) (w' := wq) (by simp [go_sem]) ⟨rfl, hI⟩
            · exact Gives.value (v := .pointer (some ⟨p.block, p.off + 3, none⟩)) (w' := wq) (by simp [go_sem]) ⟨rfl, hI⟩
            · have cJ : wq.cell? ⟨p.block, p.off + 3, none⟩ = some (.slice (some ad) ks.length cap) := (HP.out.keep hI.1.out).kids
              exact Gives.value (v := .slice (some ad) ks.length cap) (w' := wq) (by simp [go_sem, cJ]) ⟨rfl, hI⟩
            · exact Gives.value (v := .int .i64 j) (w' := wq) (by kernel_rfl) ⟨rfl, hI⟩
            · skip
              exact Gives.value (v := .pointer (some (ad.add (j * 4)))) (w' := wq) (by simp [go_sem, hlt]; try omega) ⟨rfl, hI⟩
            · exact Gives.value (v := .pointer (some (ad.add (j * 4)))) (w' := wq) (by simp [go_sem]) ⟨rfl, hI⟩
            · have cJ : wq.cell? (ad.add (j * 4)) = some (.int .i64 ky) := (HY.out.keep hI.1.out).kind
              exact Gives.value (v := .int .i64 ky) (w' := wq) (by simp [go_sem, cJ]) ⟨rfl, hI⟩
            · exact Gives.value (v := .bool (ky == 1)) (w' := wq) (by simp [go_sem]) ⟨rfl, hI⟩
            · skip
              exact Gives.value (v := .bool true) (w' := wq) (by simp [go_sem, hbp]) ⟨rfl, hI⟩
            · exact Gives.value (v := .bool true) (w' := wq) (by kernel_rfl) ⟨rfl, hI⟩
            · exact Gives.value (v := .bool true) (w' := wq) (by kernel_rfl) ⟨rfl, hI⟩
          · intro wq hI
            have HB := hI.1
            have HC := hI.2
            clear hI
            go_wp2_with fail
            go_ret
            exact ⟨ret_bool (by rw [HQ.out]), by rw [HQ.out]; exact HC.out, HB.out⟩
      · obtain rfl : j = ks.length := by omega
        rw [List.take_length] at HX
        rw [HX.out] at HQ0
        go_wp2_with fail
        go_ret
        exact ⟨ret_bool (by rw [HQ0.out]), by rw [HQ0.out]; exact HC.out, HB.out⟩
theorem wpList_build_to {P : Program} {ops : Array Oper} {rest : List Oper} {o : Oper} {a : Act} {w : World} {Q : Exit → Act → World → Prop} (hg : o.guard = none) (t : TypeId) (parts : Array (Nat × Operand)) (ho : o.op = .build t parts) (cells : Array Value)
    (hf : P.built t (parts.map fun (i, x) => (i, a.eval x)).toList = some cells) (h : wpList P ops Q rest (a.put o.dst (.agg cells)) w) : wpList P ops Q (o :: rest) a w :=
  wpList_build hg t parts ho (by rw [hf]; rfl) (by rw [hf]; exact h)
set_option maxRecDepth 100000 in
set_option maxHeartbeats 800000 in
theorem nvalid_any (t : Tre) (c : Array Value) (w : World) (hN : NodAt w t c) : Calls Tryz.prog 35 #[.agg c] w fun e w' => e = .returned (.bool (validT t)) ∧ Below w.heap.size w w' := by
  obtain ⟨k, s, cols, ks⟩ := t
  have HQ := Lib.hid (valid_chk (.mk k s cols ks))
  obtain ⟨A2, cap2, rfl, hs, hl, hc, hk⟩ := hN.form
  dsimp only [Tre.kind, Tre.text, Tre.cols, Tre.kids] at hs hl hc hk ⊢
  rw [tre_kind] at HQ
  have K0 := Lib.hid (Blk.new w 25 (nodC k s cols A2 ks.length cap2))
  have H0 := Lib.hid (bel_alloc w (.cells (nodC k s cols A2 ks.length cap2) 25))
  have HK := Lib.hid (hk.keep H0.out)
  clear hk hN
  dsimp only [nodC] at K0 H0 HK
  go_enter Tryz.func35, Tryz.ntmps35
  go_wp2_with fail
  generalize w.alloc (.cells #[.int .i64 k, .string s, .int .i64 cols, .slice A2 ks.length cap2] 25) = w1 at *
  refine (kinds_any w1).mono ?_
  rintro e w2 ⟨rfl, hb⟩
  have K0 := Lib.hid (keep hb K0.out)
  have HK := Lib.hid (HK.out.keep hb)
  have H0 := Lib.hid (H0.out.trans (hb.mono H0.out.size))
  clear hb
  by_cases h1 : k = 1
  · subst h1
    rw [decide_eq_true rfl, Bool.true_and] at HQ
    have c0 := (K0.out.alloc (.cells (chkC 0) 100)).cell 0
    go_wp2_with (refine wpList_build_to rfl 100 #[(0, .tmp 4)] rfl (chkC 0) (by kernel_rfl) ?_)
    have HCK := Lib.hid (Blk.new w2 100 (chkC 0))
    have HB2 := Lib.hid (bel_alloc w2 (.cells (chkC 0) 100))
    have HP := Lib.hid (show PtrAt w2 ⟨w.heap.size, 0, none⟩ (.mk 1 s cols ks) A2 cap2 from ⟨K0.out.lt, K0.out.cell 0, K0.out.cell 1, K0.out.cell 2, K0.out.cell 3, hs, hl, hc, HK.out⟩)
    refine (node_any (countT (.mk 1 s cols ks) + 1) (.mk 1 s cols ks) ⟨w.heap.size, 0, none⟩ A2 cap2 w2.heap.size 0 1 w2 _ (by omega) HP.out HB2.out HCK.out (Nat.le_refl _) (by omega) (by omega)).mono ?_
    rintro e w4 ⟨rfl, _, hb⟩
    have HB := Lib.hid (H0.out.trans (hb.mono H0.out.size))
    clear hb c0
    go_wp2_with fail
    go_ret
    exact ⟨ret_bool HQ.out.symm, HB.out⟩
  · have q1 : (k == 1) = false := beq_eq_false_iff_ne.2 h1
    rw [decide_eq_false h1, Bool.false_and] at HQ
    clear h1
    have c0 := (K0.out.alloc (.cells (chkC 0) 100)).cell 0
    go_wp2_with (refine wpList_build_to rfl 100 #[(0, .tmp 4)] rfl (chkC 0) (by kernel_rfl) ?_)
    go_ret
    exact ⟨ret_bool HQ.out.symm, H0.out.trans ((bel_alloc w2 _).mono H0.out.size)⟩
theorem nitems_any (A : Option Addr) (cap : Nat) (ts : List Tre) (w : World) (hK : KidsAt w A ts) (hn : ts.length ≤ cap) (hc : cap ≤ 9223372036854775807) : Calls Tryz.prog 51 #[.slice A ts.length cap] w fun e w' => e = .returned (.bool (validT (.mk 1 ⟨#[]⟩ 0 ts))) ∧ Below w.heap.size w w' := by
  have HN := Lib.hid (NodAt.of (k := 1) (s := ⟨#[]⟩) (c := 0) (by decide) hn hc hK)
  go_enter Tryz.func51, Tryz.ntmps51
  go_wp2_with fail
  refine (nvalid_any _ _ _ HN.out).mono ?_
  rintro e w1 ⟨rfl, hb⟩
  have HB := Lib.hid hb
  clear hb
  go_wp2_with fail
  go_ret
  exact ⟨rfl, HB.out⟩
theorem torow_any (A : Option Addr) (n cap : Nat) (w : World) : Calls Tryz.prog 79 #[.slice A n cap] w fun e w' => e = .returned (.agg (nodC 1 ⟨#[]⟩ 0 A n cap)) ∧ Below w.heap.size w w' := by
  go_enter Tryz.func79, Tryz.ntmps79
  go_wp2_with fail
  have N := Lib.hid (Blk.new w 25 (nodC 1 ⟨#[]⟩ 0 A n cap))
  have NB := Lib.hid (bel_alloc w (.cells (nodC 1 ⟨#[]⟩ 0 A n cap) 25))
  dsimp only [nodC] at N NB
  generalize w.alloc (.cells #[.int .i64 1, .string ⟨#[]⟩, .int .i64 0, .slice A n cap] 25) = wz at *
  have c := fun i => N.out.cell i
  exact bodyPost_ret (v := .agg (nodC 1 ⟨#[]⟩ 0 A n cap)) (by simp [results, Tryz.results79, go_sem, c]) rfl ⟨rfl, NB.out⟩
theorem ritems_any (A : Option Addr) (cap : Nat) (ts : List Tre) (w : World) (hK : KidsAt w A ts) (hn : ts.length ≤ cap) (hc : cap ≤ 9223372036854775807) (hm : countL ts < 900000) : Calls Tryz.prog 49 #[.slice A ts.length cap] w fun e w' => e = .returned (.bool (validT (.mk 1 ⟨#[]⟩ 0 ts))) ∧ Below w.heap.size w w' := by
  have HN := Lib.hid (NodAt.of (k := 1) (s := ⟨#[]⟩) (c := 0) (by decide) hn hc hK)
  have HM := Lib.hid (show countT (.mk 1 ⟨#[]⟩ 0 ts) ≤ 900000 by rw [countT]; omega)
  clear hK
  go_enter Tryz.func49, Tryz.ntmps49
  go_wp2_with fail
  refine (torow_any A ts.length cap w).mono ?_
  rintro e w1 ⟨rfl, hb1⟩
  have HN := Lib.hid (HN.out.keep hb1)
  have H1 := Lib.hid hb1
  clear hb1
  go_wp2_with fail
  refine (rvalid_any _ _ _ HM.out HN.out).mono ?_
  rintro e w2 ⟨rfl, hb⟩
  have HB := Lib.hid (H1.out.trans (hb.mono H1.out.size))
  clear hb
  go_wp2_with fail
  go_ret
  exact ⟨rfl, HB.out⟩
end Go.Proofs.YthpioplpfmlgcaaGreatDoor.At
