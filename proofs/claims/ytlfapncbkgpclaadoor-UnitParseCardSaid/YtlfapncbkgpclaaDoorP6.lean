/- Parse returns the valid dimension with a text, or ErrSyntax; premise: the library's variables are as it lays them. -/
import Derived.Test.YtlfapncbkgpclaaDoorP5
import Derived.Test.YtlfapncbkgpclaaDoorShelf3
namespace Go.Proofs.YtlfapncbkgpclaaDoor
open Go.RowKit
structure Glb (w : World) : Prop where
  tab : Tab w
  len : ∃ m, w.cell? ⟨0, 0, none⟩ = some (.int .i64 m)
  syn : ∃ ev, w.cell? ⟨1, 0, none⟩ = some ev ∧ (ev = .nilIface ∨ ∃ te pe, ev = .iface te pe)
  rng : ∃ ev, w.cell? ⟨2, 0, none⟩ = some ev ∧ (ev = .nilIface ∨ ∃ te pe, ev = .iface te pe)
  big : 3 ≤ w.heap.size
theorem Glb.keep {w w' : World} (h : Glb w) (hb : Below w.heap.size w w') : Glb w' := by
  obtain ⟨h1, h2, h3, h4, h5⟩ := h
  refine ⟨fun w2 hb2 => h1 w2 (hb.trans (hb2.mono hb.size)), ?_, ?_, ?_, Nat.le_trans h5 hb.size⟩
  · obtain ⟨m, hm⟩ := h2
    exact ⟨m, (hb.cell (p := ⟨0, 0, none⟩) (by show 0 < _; omega)).trans hm⟩
  · obtain ⟨m, hm, hi⟩ := h3
    exact ⟨m, (hb.cell (p := ⟨1, 0, none⟩) (by show 1 < _; omega)).trans hm, hi⟩
  · obtain ⟨m, hm, hi⟩ := h4
    exact ⟨m, (hb.cell (p := ⟨2, 0, none⟩) (by show 2 < _; omega)).trans hm, hi⟩
theorem bel_alloc (w : World) (o : Obj) : Below w.heap.size w (w.alloc o) := (Below.refl _ _).alloc (Nat.le_refl _) o
theorem psplit_any (s : ByteArray) (w : World) (hG : Glb w) (hs : s.size ≤ 1000000) : Calls Tryd.prog 57 #[.string s, .string ⟨#[32]⟩] w fun e w' => e = .returned (.slice (some ⟨w.heap.size, 0, none⟩) (splitL 32 s.data.toList).length (splitL 32 s.data.toList).length) ∧ Below w.heap.size w w' ∧ StrsAt w' w.heap.size (splitL 32 s.data.toList) := by
  obtain ⟨m, hm⟩ := hG.len
  refine (Tryd.strings_Split s ⟨#[32]⟩ m w (by omega) hm (by decide)).mono ?_
  rintro e w' ⟨rfl, rfl⟩
  rw [countB_one, splitB_one]
  refine ⟨rfl, bel_alloc _ _, by simp, fun j p hj => ?_⟩
  rw [Blk.cell (Blk.new w 9 _)]
  simp [hj]
theorem pcut_any (s : ByteArray) (w : World) (hG : Glb w) (hs : s.size ≤ 1000000) : Calls Tryd.prog 58 #[.string s, .string ⟨#[94]⟩] w fun e w' => e = .returned (.tuple #[.string (bys (Lib.cut s.data.toList [94]).1), .string (bys (Lib.cut s.data.toList [94]).2.1), .bool (Lib.cut s.data.toList [94]).2.2]) ∧ Below w.heap.size w w' := by
  obtain ⟨m, hm⟩ := hG.len
  refine (Tryd.strings_Cut s ⟨#[94]⟩ m w (by omega) hm).mono ?_
  rintro e w' ⟨rfl, n, rfl⟩
  exact ⟨rfl, below_drewN (Below.refl _ _) n⟩
def AtoiPost (n : Int) (w : World) (e : Ending) (w' : World) : Prop := ∃ x, e = .returned (.tuple #[.int .i64 n, x]) ∧ Below w.heap.size w w'
theorem cut_len (p : List UInt8) : (Lib.cut p [94]).2.1.length ≤ p.length := by
  unfold Lib.cut
  split
  · simp
  · simp
theorem bytes_below (w : World) (t : ByteArray) : Below w.heap.size w (Lib.bytesWorld w 5 t) := by
  unfold Lib.bytesWorld
  exact Lib.below_freeze ((below_drew (Below.refl _ w)).alloc (Nat.le_refl _) _) (p := ⟨w.heap.size, _, none⟩) (Nat.le_refl _) 1
theorem atoi_any (s : ByteArray) (w : World) (hG : Glb w) (hs : s.size ≤ 1000000) : Calls Tryd.prog 59 #[.string s] w (AtoiPost (expP s.data.toList) w) := by
  unfold expP
  cases h : Lib.atoiAll s.data.toList with
  | ok v =>
    refine (Tryd.strconv_Atoi_ok s (by omega) v h w).mono ?_
    rintro e w' ⟨rfl, hw⟩
    refine ⟨_, rfl, ?_⟩
    rcases hw with rfl | ⟨t, rfl⟩
    · exact Below.refl _ _
    · exact bytes_below w t
  | range =>
    obtain ⟨ev, hv, hev⟩ := hG.rng
    refine (Tryd.strconv_Atoi_range s (by omega) h ev w hv hev).mono ?_
    rintro e w' ⟨N, rfl, _, _, hb⟩
    exact ⟨_, rfl, hb⟩
  | _ =>
    obtain ⟨ev, hv, hev⟩ := hG.syn
    refine (Any.strconv_Atoi_syntax Tryd.laysC172 s (by omega) h ev w hv hev).mono ?_
    rintro e w' ⟨N, rfl, _, _, hb⟩
    exact ⟨_, rfl, hb⟩

theorem text_finP (s : ByteArray) (hs : s ≠ ⟨#[]⟩) (c : D7) : ¬ (c.ok = true ∧ textB c = s) → textAll c ≠ s := by
  intro h e
  unfold textAll at e
  split at e
  · exact h ⟨‹_›, e⟩
  · exact hs e.symm
set_option maxRecDepth 100000 in
set_option maxHeartbeats 4000000 in
theorem parse_any (s : ByteArray) (w : World) (hG : Glb w) (hs : s.size ≤ 1000000) : Calls Tryd.prog 30 #[.string s] w fun e w' => e = .returned (pV (parseOf (candP (splitL 32 s.data.toList)) s)) ∧ Below w.heap.size w w' := by
  have HSP := Lib.hid (split_len 32 s.data.toList)
  have hps : (splitL 32 s.data.toList).length ≤ 1000001 := by
    have := HSP.out.1
    rw [Array.length_toList] at this
    exact Nat.le_trans this (by show s.size + 1 ≤ _; omega)
  have HPL : Hid (∀ p ∈ splitL 32 s.data.toList, p.length ≤ 1000000) := fun p hp => by
    have := HSP.out.2 p hp
    rw [Array.length_toList] at this
    exact Nat.le_trans this hs
  have HG := Lib.hid hG
  clear hG HSP
  go_enter Tryd.func30, Tryd.ntmps30
  go_wp2_with fail
  refine (psplit_any s _ (HG.out.keep ((bel_alloc _ _).trans ((bel_alloc _ _).mono (by simp)))) hs).mono ?_
  rintro e w1 ⟨rfl, hb, hS⟩
  have KR := Lib.hid (keep hb ((Blk.new w 23 D7.zero.c).alloc _))
  have KD := Lib.hid (keep hb (Blk.new (w.alloc _) 23 D7.zero.c))
  have H0 := Lib.hid (below2 hb)
  have KS := Lib.hid hS
  rw [World.size_alloc] at KD
  clear hb hS
  have HC : Hid (candP (splitL 32 s.data.toList) = candK partP (splitL 32 s.data.toList) (splitL 32 s.data.toList).length) := (candK_all partP _ _ (Nat.le_refl _)).symm
  generalize hpse : splitL 32 s.data.toList = ps at *
  have HPE := Lib.hid hpse
  clear hpse
  have hg2 : w.heap.size + 1 < ((w.alloc (Obj.cells D7.zero.c 23)).alloc (Obj.cells D7.zero.c 23)).heap.size := by simp
  simp only [World.size_alloc] at hg2 KS ⊢
  generalize w.heap.size + 1 + 1 = g at *
  go_wp2_with fail
  go_loopw [16] (fun i wr => ∃ k : Nat, k ≤ ps.length ∧ i = .int .i64 k ∧ Hid (Blk wr w.heap.size 23 D7.zero.c) ∧ Hid (Blk wr (w.heap.size + 1) 23 (candK partP ps k).c) ∧ Hid (StrsAt wr g ps) ∧ Hid (Below w.heap.size w wr)) (fun i _ => ps.length - (intOf i).toNat)
  case atStart => exact ⟨0, by omega, rfl, KR, KD, KS, H0⟩
  case round =>
    clear KR KD KS H0
    obtain ⟨k, hk, rfl, KR, KD, KS, H0⟩ := hrel
    by_cases hlt : k < ps.length
    · obtain ⟨p, hp⟩ : ∃ p, ps[k]? = some p := ⟨_, List.getElem?_eq_getElem hlt⟩
      have hx := KS.out.2 k p hp
      have HPs := Lib.hid (candK_succ partP ps k p hp)
      have HPZ := Lib.hid (HPL.out p (List.mem_of_getElem? hp))
      clear hp
      go_wp2_with fail
      refine (pcut_any (bys p) _ (HG.out.keep H0.out) (by rw [bys_size]; exact HPZ.out)).mono ?_
      rintro e w2 ⟨rfl, hb⟩
      rw [bys_data]
      have NR := Lib.hid (keep hb KR.out)
      have ND := Lib.hid (keep hb KD.out)
      have NS := Lib.hid (KS.out.keep hb)
      have NB := Lib.hid (H0.out.trans (hb.mono H0.out.size))
      clear KR KD KS H0 hb hx
      have HPP : Hid (partP p = ((Lib.cut p [94]).1, if (Lib.cut p [94]).2.2 then expP (Lib.cut p [94]).2.1 else 1)) := rfl
      have HCL : Hid ((Lib.cut p [94]).2.1.length ≤ 1000000) := Nat.le_trans (cut_len p) HPZ.out
      obtain ⟨nm, pw, th, hcut⟩ : ∃ nm pw th, Lib.cut p [94] = (nm, pw, th) := ⟨_, _, _, rfl⟩
      rw [hcut] at HPP HCL ⊢
      clear hcut
      simp only at HPP HCL ⊢
      generalize candK partP ps k = D at *
      cases th
      · simp only [if_neg Bool.false_ne_true] at HPP
        rw [HPP.out] at HPs
        simp only at HPs
        go_wp2_with fail
        refine (base_any _).mono ?_
        rintro e w4 ⟨rfl, hb⟩
        have KR := Lib.hid (keep hb NR.out)
        have KD := Lib.hid (keep hb ND.out)
        have KS := Lib.hid (NS.out.keep hb)
        have H0 := Lib.hid (NB.out.trans (hb.mono NB.out.size))
        clear NR ND NS NB hb
        go_wp2_with fail
        go_loopw [33] (fun i wr => ∃ j : Nat, j ≤ 7 ∧ i = .int .i64 j ∧ Hid (Blk wr w.heap.size 23 D7.zero.c) ∧ Hid (Blk wr (w.heap.size + 1) 23 (updK D nm 1 j).c) ∧ Hid (StrsAt wr g ps) ∧ Hid (Below w.heap.size w wr)) (fun i _ => 7 - (intOf i).toNat)
        case atStart => exact ⟨0, by omega, rfl, KR, KD, KS, H0⟩
        case round =>
          clear KR KD KS H0
          obtain ⟨j, hj, rfl, KR, KD, KS, H0⟩ := hrel
          by_cases hlj : j < 7
          · have hix := fun w => index_base j hlj w
            have cD := KD.out.cell j
            rw [cell_dim _ j hlj] at cD
            have fD := KD.out.frozen j
            by_cases hq : (baseB j).data.toList = nm
            · have HH := Lib.hid (upd_hit D nm 1 j hlj hq)
              have hb1 : ((baseB j).toList == (bys nm).toList) = true := by rw [bys_toList, ByteArray.toList_eq]; simp [hq]
              clear hq
              go_wp2_with fail
              go_roundw
              case rel => exact ⟨j + 1, by omega, by go_num, KR.out.far (p := ⟨w.heap.size + 1, j, none⟩) (by simp) _, by rw [← HH.out]; exact KD.out.set_ j _, KS.out.set (p := ⟨w.heap.size + 1, j, none⟩) (by simp; omega) _, H0.out.setCell (p := ⟨w.heap.size + 1, j, none⟩) (by simp) _⟩
              case measure => simp [intOf]; omega
            · have HH := Lib.hid (upd_miss D nm 1 j hq)
              have hb1 : ((baseB j).toList == (bys nm).toList) = false := by rw [bys_toList, ByteArray.toList_eq]; simp [hq]
              clear hq
              go_wp2_with fail
              go_roundw
              case rel => exact ⟨j + 1, by omega, by go_num, KR, by rw [HH.out]; exact KD, KS, H0⟩
              case measure => simp [intOf]; omega
          · obtain rfl : j = 7 := by omega
            rw [← HPs.out] at KD
            go_wp2_with fail
            go_roundw
            case rel => exact ⟨k + 1, by omega, by go_num, KR, KD, KS, H0⟩
            case measure => simp [intOf]; omega
      · simp only [if_true] at HPP
        rw [HPP.out] at HPs
        simp only at HPs
        go_wp2_with fail
        refine (atoi_any (bys pw) _ (HG.out.keep NB.out) (by rw [bys_size]; exact HCL.out)).mono ?_
        rintro e w3 ⟨x, rfl, hb⟩
        rw [bys_data]
        have MR := Lib.hid (keep hb NR.out)
        have MD := Lib.hid (keep hb ND.out)
        have MS := Lib.hid (NS.out.keep hb)
        have MB := Lib.hid (NB.out.trans (hb.mono NB.out.size))
        clear NR ND NS NB hb
        have NR := MR
        have ND := MD
        have NS := MS
        have NB := MB
        clear MR MD MS MB
        generalize expP pw = ex at *
        go_wp2_with fail
        refine (base_any _).mono ?_
        rintro e w4 ⟨rfl, hb⟩
        have KR := Lib.hid (keep hb NR.out)
        have KD := Lib.hid (keep hb ND.out)
        have KS := Lib.hid (NS.out.keep hb)
        have H0 := Lib.hid (NB.out.trans (hb.mono NB.out.size))
        clear NR ND NS NB hb
        go_wp2_with fail
        go_loopw [33] (fun i wr => ∃ j : Nat, j ≤ 7 ∧ i = .int .i64 j ∧ Hid (Blk wr w.heap.size 23 D7.zero.c) ∧ Hid (Blk wr (w.heap.size + 1) 23 (updK D nm ex j).c) ∧ Hid (StrsAt wr g ps) ∧ Hid (Below w.heap.size w wr)) (fun i _ => 7 - (intOf i).toNat)
        case atStart => exact ⟨0, by omega, rfl, KR, KD, KS, H0⟩
        case round =>
          clear KR KD KS H0
          obtain ⟨j, hj, rfl, KR, KD, KS, H0⟩ := hrel
          by_cases hlj : j < 7
          · have hix := fun w => index_base j hlj w
            have cD := KD.out.cell j
            rw [cell_dim _ j hlj] at cD
            have fD := KD.out.frozen j
            by_cases hq : (baseB j).data.toList = nm
            · have HH := Lib.hid (upd_hit D nm ex j hlj hq)
              have hb1 : ((baseB j).toList == (bys nm).toList) = true := by rw [bys_toList, ByteArray.toList_eq]; simp [hq]
              clear hq
              go_wp2_with fail
              go_roundw
              case rel => exact ⟨j + 1, by omega, by go_num, KR.out.far (p := ⟨w.heap.size + 1, j, none⟩) (by simp) _, by rw [← HH.out]; exact KD.out.set_ j _, KS.out.set (p := ⟨w.heap.size + 1, j, none⟩) (by simp; omega) _, H0.out.setCell (p := ⟨w.heap.size + 1, j, none⟩) (by simp) _⟩
              case measure => simp [intOf]; omega
            · have HH := Lib.hid (upd_miss D nm ex j hq)
              have hb1 : ((baseB j).toList == (bys nm).toList) = false := by rw [bys_toList, ByteArray.toList_eq]; simp [hq]
              clear hq
              go_wp2_with fail
              go_roundw
              case rel => exact ⟨j + 1, by omega, by go_num, KR, by rw [HH.out]; exact KD, KS, H0⟩
              case measure => simp [intOf]; omega
          · obtain rfl : j = 7 := by omega
            rw [← HPs.out] at KD
            go_wp2_with fail
            go_roundw
            case rel => exact ⟨k + 1, by omega, by go_num, KR, KD, KS, H0⟩
            case measure => simp [intOf]; omega
    · obtain rfl : k = ps.length := by omega
      rw [← HC.out] at KD
      clear HC HPL hps
      generalize hce : candP ps = c at *
      have HCE := Lib.hid hce
      clear hce
      by_cases hemp : s = ⟨#[]⟩
      · have HP : Hid (parseOf c s = none) := if_neg (fun h => text_ne _ (h.2.trans hemp))
        have hemp1 : s.toList.isEmpty = true := by rw [hemp, ByteArray.toList_eq]; rfl
        have MB := H0
        have cR := fun i => KR.out.cell i
        have fR := fun i => KR.out.frozen i
        have lR := KR.out.lt
        clear hemp KD KS H0
        go_wp2_with fail
        refine bodyPost_ret (v := .tuple #[D7.zero.v, .int .i64 3]) (by simp [results, Tryd.results30, go_sem, cR]) rfl ⟨by rw [HPE.out, HCE.out, HP.out]; rfl, ?_⟩
        repeat' (first | (with_reducible exact MB.out) | (with_reducible refine Below.setCell ?_ ?_ _) | (with_reducible refine Below.alloc ?_ ?_ _) | (with_reducible refine below_drewN ?_ _) | (with_reducible refine Below.drew ?_) | (have := MB.out.size; go_size))
      · have hemp1 : s.toList.isEmpty = false := by
          rw [ByteArray.toList_eq]
          cases h : s.data.toList with
          | nil => exact absurd (by rw [← data_bys s, h]; rfl) hemp
          | cons a b => rfl
        have HT := Lib.hid (text_finP s hemp c)
        clear hemp
        have cD := fun i => KD.out.cell i
        have lD := KD.out.lt
        go_wp2_with fail
        refine (text_any c _ (HG.out.keep H0.out).tab).mono ?_
        rintro e w2 ⟨rfl, hb⟩
        have MR := Lib.hid (keep hb KR.out)
        have MD := Lib.hid (keep hb KD.out)
        have MB := Lib.hid (H0.out.trans (hb.mono H0.out.size))
        clear KR KD KS H0 hb cD lD
        have cR := fun i => MR.out.cell i
        have fR := fun i => MR.out.frozen i
        have lR := MR.out.lt
        have cD := fun i => MD.out.cell i
        have lD := MD.out.lt
        by_cases hq : c.ok = true ∧ textB c = s
        · have HP : Hid (parseOf c s = some c) := if_pos hq
          have he : textAll c = s := by unfold textAll; rw [hq.1]; exact hq.2
          rw [he]
          clear he hq HT
          go_wp2_with fail
          refine bodyPost_ret (v := .tuple #[c.v, .int .i64 0]) (by simp [results, Tryd.results30, go_sem, cR]) rfl ⟨by rw [HPE.out, HCE.out, HP.out]; rfl, ?_⟩
          repeat' (first | (with_reducible exact MB.out) | (with_reducible refine Below.setCell ?_ ?_ _) | (with_reducible refine Below.alloc ?_ ?_ _) | (with_reducible refine below_drewN ?_ _) | (with_reducible refine Below.drew ?_) | (have := MB.out.size; go_size))
        · have HP : Hid (parseOf c s = none) := if_neg hq
          have hne : ((textAll c).toList == s.toList) = false := by
            rw [beq_eq_false_iff_ne, ByteArray.toList_eq, ByteArray.toList_eq]
            intro e
            exact HT.out hq (by rw [← data_bys (textAll c), e, data_bys])
          have hne2 : ((textAll c).toList != s.toList) = true := by rw [bne, hne]; rfl
          clear hq HT
          generalize textAll c = t at *
          go_wp2_with fail
          refine bodyPost_ret (v := .tuple #[D7.zero.v, .int .i64 3]) (by simp [results, Tryd.results30, go_sem, cR]) rfl ⟨by rw [HPE.out, HCE.out, HP.out]; rfl, ?_⟩
          repeat' (first | (with_reducible exact MB.out) | (with_reducible refine Below.setCell ?_ ?_ _) | (with_reducible refine Below.alloc ?_ ?_ _) | (with_reducible refine below_drewN ?_ _) | (with_reducible refine Below.drew ?_) | (have := MB.out.size; go_size))
end Go.Proofs.YtlfapncbkgpclaaDoor
