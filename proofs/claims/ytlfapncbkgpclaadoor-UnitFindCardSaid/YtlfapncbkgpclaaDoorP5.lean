/- Parse (reference) returns the valid dimension with a text, or ErrSyntax. -/
import Derived.Test.YtlfapncbkgpclaaDoorP4
namespace Go.Proofs.YtlfapncbkgpclaaDoor
open Go.RowKit
theorem StrsAt.alloc {w : World} {g : Nat} {ps : List (List UInt8)} (h : StrsAt w g ps) (o : Obj) : StrsAt (w.alloc o) g ps :=
  h.keep ((Below.refl w.heap.size w).alloc (Nat.le_refl _) o)
theorem StrsAt.set {w : World} {g : Nat} {ps : List (List UInt8)} (h : StrsAt w g ps) {p : Addr} (hp : g ≠ p.block) (u : Value) : StrsAt (w.setCell p u) g ps :=
  ⟨by simpa using h.1, fun j q hj => (World.cell?_setCell_other w p ⟨g, j, none⟩ u (fun e => hp (congrArg Addr.block e).symm)).trans (h.2 j q hj)⟩
theorem own_strs {w : World} {base : Nat} {v : Value} {ps : List (List UInt8)} (h : w.ownsRow base 9 1 v ps.length (ps.map (fun p => Value.string (bys p)))) (hne : ps ≠ []) :
    ∃ g cap, v = .slice (some ⟨g, 0, none⟩) ps.length cap ∧ base ≤ g ∧ StrsAt w g ps := by
  have hpos := List.length_pos_iff.2 hne
  obtain ⟨g, cap, rfl⟩ : ∃ g cap, v = .slice (some ⟨g, 0, none⟩) ps.length cap := by
    rcases h.2 with ⟨_, hn⟩ | ⟨g, cap, _, rfl, _⟩
    · omega
    · exact ⟨g, cap, rfl⟩
  obtain ⟨hb, hlt⟩ := h.lt g rfl
  refine ⟨g, cap, rfl, hb, hlt, fun j p hj => ?_⟩
  have := h.cells (g := g) rfl j (.string (bys p)) (by rw [List.getElem?_map, hj]; rfl)
  by_cases hj0 : j = 0
  · subst hj0; exact this
  · simpa [Addr.add, hj0] using this
theorem split_len (c : UInt8) : ∀ l : List UInt8, (splitL c l).length ≤ l.length + 1 ∧ ∀ p ∈ splitL c l, p.length ≤ l.length
  | [] => by simp [splitL]
  | x :: r => by
    obtain ⟨h1, h2⟩ := split_len c r
    have h3 := splitL_ht c r
    unfold splitL
    split
    · refine ⟨by simp; omega, fun p hp => ?_⟩
      rw [List.mem_cons] at hp
      rcases hp with rfl | hp
      · simp
      · have := h2 p hp; simp; omega
    · refine ⟨by simp; omega, fun p hp => ?_⟩
      rw [List.mem_cons] at hp
      have hh : (splitL c r).headD [] ∈ splitL c r := by rw [← h3]; simp
      rcases hp with rfl | hp
      · have := h2 _ hh; simp at this ⊢; omega
      · have := h2 p (List.mem_of_mem_tail hp); simp; omega
theorem bys_size (l : List UInt8) : (bys l).size = l.length := by simp [bys, ByteArray.size]
def candK (part : List UInt8 → List UInt8 × Int) (ps : List (List UInt8)) (i : Nat) : D7 := (ps.take i).foldl (fun d p => updK d (part p).1 (part p).2 7) D7.zero
theorem candK_zero (part : List UInt8 → List UInt8 × Int) (ps : List (List UInt8)) : candK part ps 0 = D7.zero := rfl
theorem candK_succ (part : List UInt8 → List UInt8 × Int) (ps : List (List UInt8)) (i : Nat) (p : List UInt8) (h : ps[i]? = some p) : candK part ps (i + 1) = updK (candK part ps i) (part p).1 (part p).2 7 := by
  unfold candK
  rw [List.take_add_one, h, List.foldl_append]
  rfl
theorem candK_all (part : List UInt8 → List UInt8 × Int) (ps : List (List UInt8)) (i : Nat) (h : ps.length ≤ i) : candK part ps i = ps.foldl (fun d p => updK d (part p).1 (part p).2 7) D7.zero := by
  unfold candK
  rw [List.take_of_length_le h]
def pV (r : Option D7) : Value := match r with
  | none => .tuple #[D7.zero.v, .int .i64 3]
  | some d => .tuple #[d.v, .int .i64 0]
/-- a name is compared with one more base unit -/
theorem upd_hit (d : D7) (name : List UInt8) (e : Int) (k : Nat) (hk : k < 7) (h : (baseB k).data.toList = name) : (updK d name e k).c.setIfInBounds k (.int .i64 e) = (updK d name e (k + 1)).c := by
  rw [updK, if_pos h, set_c _ _ _ hk]
theorem upd_miss (d : D7) (name : List UInt8) (e : Int) (k : Nat) (h : (baseB k).data.toList ≠ name) : updK d name e (k + 1) = updK d name e k := by rw [updK, if_neg h]
theorem text_fin (s : ByteArray) : ¬ ((candR (splitL 32 s.data.toList)).ok = true ∧ textB (candR (splitL 32 s.data.toList)) = s) → textAll (candR (splitL 32 s.data.toList)) ≠ s := by
  intro h e
  unfold textAll at e
  split at e
  · exact h ⟨‹_›, e⟩
  · rename_i hn
    subst e
    exact hn candR_empty
set_option maxRecDepth 100000 in
set_option maxHeartbeats 4000000 in
theorem rparse_any (s : ByteArray) (w : World) (hs : s.size ≤ 1000000) : Calls Tryd.prog 34 #[.string s] w fun e w' => e = .returned (pV (parseOf (candR (splitL 32 s.data.toList)) s)) ∧ Below w.heap.size w w' := by
  have HSP := Lib.hid (split_len 32 s.data.toList)
  have hps : (splitL 32 s.data.toList).length ≤ 1000001 := by
    have := HSP.out.1
    rw [Array.length_toList] at this
    exact Nat.le_trans this (by show s.size + 1 ≤ _; omega)
  have HNE := Lib.hid (splitL_ne 32 s.data.toList)
  have HPL : Hid (∀ p ∈ splitL 32 s.data.toList, p.length ≤ 1000000) := fun p hp => by
    have := HSP.out.2 p hp
    rw [Array.length_toList] at this
    exact Nat.le_trans this hs
  go_enter Tryd.func34, Tryd.ntmps34
  go_wp2_with fail
  refine (rsplit_any s 32 _ hs).mono ?_
  rintro e w1 ⟨v, rfl, hown, hb⟩
  obtain ⟨g, cap, rfl, hg, hS⟩ := own_strs hown HNE.out
  clear hown
  have KR := Lib.hid (keep hb ((Blk.new w 23 D7.zero.c).alloc _))
  have KD := Lib.hid (keep hb (Blk.new (w.alloc _) 23 D7.zero.c))
  have H0 := Lib.hid (below2 hb)
  have KS := Lib.hid hS
  have hg2 : w.heap.size + 1 < g := by simp at hg; omega
  rw [World.size_alloc] at KD
  clear hb hg hS HSP
  have HT := Lib.hid (text_fin s)
  have HC : Hid (candR (splitL 32 s.data.toList) = candK partR (splitL 32 s.data.toList) (splitL 32 s.data.toList).length) := (candK_all partR _ _ (Nat.le_refl _)).symm
  generalize hpse : splitL 32 s.data.toList = ps at *
  have HPE := Lib.hid hpse
  clear hpse
  go_wp2_with fail
  go_loopw [6] (fun i wr => ∃ k : Nat, k ≤ ps.length ∧ i = .int .i64 k ∧ Hid (Blk wr w.heap.size 23 D7.zero.c) ∧ Hid (Blk wr (w.heap.size + 1) 23 (candK partR ps k).c) ∧ Hid (StrsAt wr g ps) ∧ Hid (Below w.heap.size w wr)) (fun i _ => ps.length - (intOf i).toNat)
  case atStart => exact ⟨0, by omega, rfl, KR, KD, KS, H0⟩
  case round =>
    clear KR KD KS H0
    obtain ⟨k, hk, rfl, KR, KD, KS, H0⟩ := hrel
    by_cases hlt : k < ps.length
    · obtain ⟨p, hp⟩ : ∃ p, ps[k]? = some p := ⟨_, List.getElem?_eq_getElem hlt⟩
      have hx := KS.out.2 k p hp
      have HPs := Lib.hid (candK_succ partR ps k p hp)
      have HPZ := Lib.hid (HPL.out p (List.mem_of_getElem? hp))
      clear hp
      go_wp2_with fail
      refine (rsplit_any (bys p) 94 _ (by rw [bys_size]; exact HPZ.out)).mono ?_
      rintro e w2 ⟨v, rfl, hown, hb⟩
      rw [bys_data] at hown
      obtain ⟨g2, cap2, rfl, hg3, hS⟩ := own_strs hown (splitL_ne 94 p)
      have hws : (splitL 94 p).length ≤ 1000001 := by
        have h1 := (split_len 94 p).1; have h2 := HPZ.out; omega
      clear hown hx
      have NR := Lib.hid (keep hb KR.out)
      have ND := Lib.hid (keep hb KD.out)
      have NS := Lib.hid (KS.out.keep hb)
      have NB := Lib.hid (H0.out.trans (hb.mono H0.out.size))
      have hg4 : w.heap.size + 1 < g2 := by have := KD.out.lt; omega
      have NW := Lib.hid hS
      have HN : Hid ((partR p).1 = (splitL 94 p).headD []) := rfl
      have HE : Hid ((partR p).2 = expR (splitL 94 p)) := rfl
      obtain ⟨nm, hnm⟩ : ∃ nm, (splitL 94 p)[0]? = some nm := by
        cases h : splitL 94 p with
        | nil => exact absurd h (splitL_ne 94 p)
        | cons a b => exact ⟨a, rfl⟩
      have HNM : Hid ((partR p).1 = nm) := by
        have h1 := HN.out
        cases h : splitL 94 p with
        | nil => exact absurd h (splitL_ne 94 p)
        | cons a b => rw [h] at hnm h1; exact h1.trans (by simpa using hnm)
      have HN0 := Lib.hid hnm
      clear KR KD KS H0 hb hg3 hS HN hnm
      generalize splitL 94 p = ws at *
      rw [HNM.out, HE.out] at HPs
      generalize candK partR ps k = D at *
      go_wp2_with fail
      go_loopw [8] (fun i wr => ∃ k : Nat, k ≤ 7 ∧ i = .int .i64 k ∧ Hid (Blk wr w.heap.size 23 D7.zero.c) ∧ Hid (Blk wr (w.heap.size + 1) 23 (updK D nm (expR ws) k).c) ∧ Hid (StrsAt wr g ps) ∧ Hid (StrsAt wr g2 ws) ∧ Hid (Below w.heap.size w wr)) (fun i _ => 7 - (intOf i).toNat)
      case atStart => exact ⟨0, by omega, rfl, NR, ND, NS, NW, NB⟩
      case round =>
        clear NR ND NS NW NB
        obtain ⟨j, hj, rfl, KR, KD, KS, KW, H0⟩ := hrel
        by_cases hlj : j < 7
        · have hy := KW.out.2 0 nm HN0.out
          have hix := fun w => index_base j hlj w
          have hwl : 0 < ws.length := by
            rcases Nat.eq_zero_or_pos ws.length with h | h
            · have := HN0.out; rw [List.getElem?_eq_none (by omega)] at this; cases this
            · exact h
          by_cases hq : (baseB j).data.toList = nm
          · have HQ := Lib.hid hq
            have HH := Lib.hid (upd_hit D nm (expR ws) j hlj hq)
            clear hq
            go_upto_region 10 with (fail)
            go_cut [32] (fun b wc => b = .bool true ∧ Hid (Blk wc w.heap.size 23 D7.zero.c) ∧ Hid (Blk wc (w.heap.size + 1) 23 (updK D nm (expR ws) j).c) ∧ Hid (StrsAt wc g ps) ∧ Hid (StrsAt wc g2 ws) ∧ Hid (Below w.heap.size w wc))
            case first =>
              go_region_with (go_at_call 42; refine (bases_any _).mono ?_; rintro e w3 ⟨rfl, hb5⟩; have MR := Lib.hid (keep hb5 KR.out.drew); have MD := Lib.hid (keep hb5 KD.out.drew); have MS := Lib.hid (KS.out.drew.keep hb5); have MW := Lib.hid (KW.out.drew.keep hb5); have MB := Lib.hid ((below_drew H0.out).trans (hb5.mono H0.out.size)); clear hb5; have hy2 := MW.out.2 0 nm HN0.out)
              all_goals (go_wp2_with fail; go_meet; exact ⟨by rw [bys_toList, ByteArray.toList_eq]; simp [HQ.out], MR, MD, MS, MW, MB⟩)
            case rest =>
              clear KR KD KS KW H0 hy
              obtain ⟨rfl, KR, KD, KS, KW, H0⟩ := hcut
              go_wp2_with fail
              refine (exp_any g2 cap2 ws _ KW.out hws).mono ?_
              rintro e w4 ⟨rfl, hb⟩
              have MR := Lib.hid (keep hb KR.out)
              have MD := Lib.hid (keep hb KD.out)
              have MS := Lib.hid (KS.out.keep hb)
              have MW := Lib.hid (KW.out.keep hb)
              have MB := Lib.hid (H0.out.trans (hb.mono H0.out.size))
              clear KR KD KS KW H0 hb
              have cD := MD.out.cell j
              rw [cell_dim _ j hlj] at cD
              have fD := MD.out.frozen j
              go_wp2_with fail
              go_roundw
              case rel => exact ⟨j + 1, by omega, by go_num, MR.out.far (p := ⟨w.heap.size + 1, j, none⟩) (by simp) _, by rw [← HH.out]; exact MD.out.set_ j _, MS.out.set (p := ⟨w.heap.size + 1, j, none⟩) (by simp; omega) _, MW.out.set (p := ⟨w.heap.size + 1, j, none⟩) (by simp; omega) _, MB.out.setCell (p := ⟨w.heap.size + 1, j, none⟩) (by simp) _⟩
              case measure => simp [intOf]; omega
          · have HQ := Lib.hid hq
            have HH := Lib.hid (upd_miss D nm (expR ws) j hq)
            clear hq
            go_upto_region 10 with (fail)
            go_cut [32] (fun b wc => b = .bool false ∧ Hid (Blk wc w.heap.size 23 D7.zero.c) ∧ Hid (Blk wc (w.heap.size + 1) 23 (updK D nm (expR ws) j).c) ∧ Hid (StrsAt wc g ps) ∧ Hid (StrsAt wc g2 ws) ∧ Hid (Below w.heap.size w wc))
            case first =>
              go_region_with (go_at_call 42; refine (bases_any _).mono ?_; rintro e w3 ⟨rfl, hb5⟩; have MR := Lib.hid (keep hb5 KR.out.drew); have MD := Lib.hid (keep hb5 KD.out.drew); have MS := Lib.hid (KS.out.drew.keep hb5); have MW := Lib.hid (KW.out.drew.keep hb5); have MB := Lib.hid ((below_drew H0.out).trans (hb5.mono H0.out.size)); clear hb5; have hy2 := MW.out.2 0 nm HN0.out)
              all_goals (go_wp2_with fail; go_meet; exact ⟨by rw [bys_toList, ByteArray.toList_eq]; simp [HQ.out], MR, MD, MS, MW, MB⟩)
            case rest =>
              clear KR KD KS KW H0 hy
              obtain ⟨rfl, KR, KD, KS, KW, H0⟩ := hcut
              go_wp2_with fail
              go_roundw
              case rel => exact ⟨j + 1, by omega, by go_num, KR, by rw [HH.out]; exact KD, KS, KW, H0⟩
              case measure => simp [intOf]; omega
        · obtain rfl : j = 7 := by omega
          rw [← HPs.out] at KD
          go_wp2_with fail
          go_roundw
          case rel => exact ⟨k + 1, by omega, by go_num, KR, KD, KS, H0⟩
          case measure => simp [intOf]; omega
    · obtain rfl : k = ps.length := by omega
      rw [← HC.out] at KD
      clear HC HPL HNE hps
      generalize hce : candR ps = c at *
      have HCE := Lib.hid hce
      clear hce
      have cD := fun i => KD.out.cell i
      have lD := KD.out.lt
      go_wp2_with fail
      refine (rtext_any c _).mono ?_
      rintro e w2 ⟨rfl, hb⟩
      have MR := Lib.hid (keep hb KR.out)
      have MD := Lib.hid (keep hb KD.out)
      have MB := Lib.hid (H0.out.trans (hb.mono H0.out.size))
      clear KR KD KS H0 hb cD lD
      have cR := fun i => MR.out.cell i
      have fR := fun i => MR.out.frozen i
      have lR := MR.out.lt
      have cD := fun i => MD.out.cell i
      have lD := MD.out.lt
      by_cases hq : c.ok = true ∧ textB c = s
      · have HP : Hid (parseOf c s = some c) := if_pos hq
        have he : textAll c = s := by unfold textAll; rw [hq.1]; exact hq.2
        rw [he]
        clear he hq HT
        go_wp2_with fail
        refine bodyPost_ret (v := .tuple #[c.v, .int .i64 0]) (by simp [results, Tryd.results34, go_sem, cR]) rfl ⟨by rw [HPE.out, HCE.out, HP.out]; rfl, ?_⟩
        repeat' (first | (with_reducible exact MB.out) | (with_reducible refine Below.setCell ?_ ?_ _) | (with_reducible refine Below.alloc ?_ ?_ _) | (with_reducible refine below_drewN ?_ _) | (with_reducible refine Below.drew ?_) | (have := MB.out.size; go_size))
      · have HP : Hid (parseOf c s = none) := if_neg hq
        have hne : ((textAll c).toList == s.toList) = false := by
          rw [beq_eq_false_iff_ne, ByteArray.toList_eq, ByteArray.toList_eq]
          intro e
          exact HT.out hq (by rw [← data_bys (textAll c), e, data_bys])
        have hne2 : ((textAll c).toList != s.toList) = true := by rw [bne, hne]; rfl
        clear hq HT
        generalize textAll c = t at *
        go_wp2_with fail
        refine bodyPost_ret (v := .tuple #[D7.zero.v, .int .i64 3]) (by simp [results, Tryd.results34, go_sem, cR]) rfl ⟨by rw [HPE.out, HCE.out, HP.out]; rfl, ?_⟩
        repeat' (first | (with_reducible exact MB.out) | (with_reducible refine Below.setCell ?_ ?_ _) | (with_reducible refine Below.alloc ?_ ?_ _) | (with_reducible refine below_drewN ?_ _) | (with_reducible refine Below.drew ?_) | (have := MB.out.size; go_size))
end Go.Proofs.YtlfapncbkgpclaaDoor
