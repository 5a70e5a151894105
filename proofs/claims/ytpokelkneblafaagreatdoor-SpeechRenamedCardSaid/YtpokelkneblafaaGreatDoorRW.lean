/- The reference's reader: word, bytes, number, name. -/
import Derived.Test.YtpokelkneblafaaGreatDoorPF
import Derived.Test.YtpokelkneblafaaGreatDoorNA
import Derived.StillTailTactics
namespace Go.Proofs.YtpokelkneblafaaGreatDoor
open Go.RowKit
theorem word_at {l : List UInt8} : ∀ {i : Nat}, (∀ j, j < i → l[j]? ≠ some 32) → i ≤ l.length → (i = l.length ∨ l[i]? = some 32) → wordL l = (l.take i, l.drop (i + 1)) := by
  induction l with
  | nil => intro i _ h _; simp at h; subst h; rfl
  | cons c l ih =>
    intro i h1 h2 h3
    cases i with
    | zero =>
      rcases h3 with h | h
      · simp at h
      · obtain rfl : c = 32 := by simpa using h
        simp [wordL]
    | succ i =>
      have hc : c ≠ 32 := fun e => h1 0 (by omega) (by rw [e]; rfl)
      have := ih (i := i) (fun j hj => by have := h1 (j + 1) (by omega); simpa using this) (by simpa using h2) (by simpa using h3)
      unfold wordL at this ⊢
      rw [Prod.mk.injEq] at this ⊢
      have e : (c != 32) = true := by rw [bne_iff_ne]; exact hc
      simp only [List.takeWhile_cons, List.dropWhile_cons, e, if_true, List.take_succ_cons, List.drop_succ_cons]
      exact ⟨by rw [this.1], this.2⟩
/-- the cells of the reader -/
abbrev rsC (s : List UInt8) (left : Int) : Array Value := #[.string (bys s), .int .i64 left]
theorem bys_get (l : List UInt8) (j : Nat) (h : j < (bys l).size) : l[j]? = some (bys l)[j] := by
  have := data_get (bys l) j h
  rwa [bys_data] at this
theorem min_step {k n : Nat} (h : k ≤ n) (hn : n ≤ 1000000) : min (n : Int) (IntKind.i64.wrap ((k : Int) + 1)) = ((min n (k + 1) : Nat) : Int) := by
  rw [IntWalk.i64_in _ (by omega)]
  omega
theorem drop_min (l : List UInt8) (k : Nat) : (bys l).extract (min (bys l).size (k + 1)) (bys l).size = bys (l.drop (k + 1)) := by
  rw [bys_drop, bys_len]
  rcases Nat.lt_or_ge l.length (k + 1) with h | h
  · rw [Nat.min_eq_left (by omega), List.drop_of_length_le (Nat.le_refl _), List.drop_of_length_le (by omega)]
  · rw [Nat.min_eq_right h]
set_option maxRecDepth 100000 in
set_option maxHeartbeats 2000000 in
theorem rword_any (gp : Nat) (s : List UInt8) (left : Int) (w : World) (hK : Blk w gp 46 (rsC s left)) (hs : s.length ≤ 2000) :
    Calls Tryz.prog 37 #[.pointer (some ⟨gp, 0, none⟩)] w fun e w' => e = .returned (.string (bys (wordL s).1)) ∧ Blk w' gp 46 (rsC (wordL s).2 left) ∧ Gr gp w w' := by
  have HS := Lib.hid (bys_len s)
  have hz : (bys s).size ≤ 2000 := by rw [bys_len]; exact hs
  have c0 := hK.cell 0
  have f0 := hK.frozen 0
  have HK := Lib.hid hK
  clear hK hs
  dsimp only [rsC] at HK c0 f0
  go_enter Tryz.func37, Tryz.ntmps37
  go_wp2_with fail
  go_loop [3] (fun i => ∃ k : Nat, k ≤ (bys s).size ∧ i = .int .i64 k ∧ Hid (∀ j, j < k → s[j]? ≠ some 32)) (fun i => (bys s).size - (intOf i).toNat)
  case atStart => exact ⟨0, by omega, rfl, Lib.hid (fun j h => by omega)⟩
  case round =>
    obtain ⟨k, hk, rfl, HJ⟩ := hrel
    by_cases hlt : k < (bys s).size
    · by_cases h32 : (bys s)[k] = 32
      · have q1 : ((↑(bys s)[k].toNat : Int) != 32) = false := by rw [h32]; rfl
        have HW := Lib.hid (word_at (l := s) (i := k) HJ.out (by rw [← bys_len]; exact hk) (.inr (by rw [bys_get s k hlt, h32])))
        go_upto_region 5 with (fail)
        go_still_tail 14, (by kernel_rfl)
        rw [min_step (k := k) (n := (bys s).size) (by omega) (by omega)]
        have hm1 : (0 : Int) ≤ ((min (bys s).size (k + 1) : Nat) : Int) := by omega
        have hm2 : ((min (bys s).size (k + 1) : Nat) : Int) ≤ ((bys s).size : Int) := by omega
        repeat still_step
        refine wpStill_nil ?_
        change wpList _ _ _ _ _ w.drew
        have K2 := Lib.hid HK.out.drew
        have G2 := Lib.hid ((Gr.refl gp w).below (below_drew (Below.refl _ _)))
        clear c0 f0
        have c0 := K2.out.cell 0
        have f0 := K2.out.frozen 0
        generalize w.drew = w2 at *
        have x1 := bys_take s k
        go_wp2
        go_ret
        rw [HW.out]
        refine ⟨rfl, ?_, G2.out.set (.inr rfl) _⟩
        show Blk _ _ _ #[.string (bys (List.drop (k + 1) s)), .int .i64 left]
        rw [← drop_min]
        exact K2.out.set_ 0 _
      · have q1 : ((↑(bys s)[k].toNat : Int) != 32) = true := by
          rw [bne_iff_ne]
          intro e
          apply h32
          apply UInt8.toNat_inj.1
          have : ((bys s)[k].toNat : Int) = 32 := e
          show (bys s)[k].toNat = 32
          omega
        have HN := Lib.hid (bys_get s k hlt)
        go_wp2_with fail
        go_round
        case rel => exact ⟨k + 1, by omega, by go_num, Lib.hid (fun j hj e => by
          rcases Nat.lt_or_ge j k with h | h
          · exact HJ.out j h e
          · obtain rfl : j = k := by omega
            rw [HN.out] at e
            exact h32 (Option.some.inj e))⟩
        case measure => simp [intOf]; omega
    · obtain rfl : k = (bys s).size := by omega
      have HW := Lib.hid (word_at (l := s) (i := (bys s).size) HJ.out (by rw [← bys_len]; exact hk) (.inl (by rw [← bys_len])))
      go_upto_region 5 with (fail)
      go_still_tail 14, (by kernel_rfl)
      rw [min_step (k := (bys s).size) (n := (bys s).size) (by omega) (by omega)]
      have hm1 : (0 : Int) ≤ ((min (bys s).size ((bys s).size + 1) : Nat) : Int) := by omega
      have hm2 : ((min (bys s).size ((bys s).size + 1) : Nat) : Int) ≤ ((bys s).size : Int) := by omega
      repeat still_step
      refine wpStill_nil ?_
      change wpList _ _ _ _ _ w.drew
      have K2 := Lib.hid HK.out.drew
      have G2 := Lib.hid ((Gr.refl gp w).below (below_drew (Below.refl _ _)))
      clear c0 f0
      have c0 := K2.out.cell 0
      have f0 := K2.out.frozen 0
      generalize w.drew = w2 at *
      have x1 : s.take (bys s).size = s := List.take_of_length_le (by rw [bys_len]; exact Nat.le_refl _)
      have x2 : s.drop ((bys s).size + 1) = [] := List.drop_of_length_le (by rw [bys_len]; omega)
      replace HW := Lib.hid (HW.out.trans (by rw [x1, x2]))
      clear x1 x2
      go_wp2
      go_ret
      rw [HW.out]
      exact ⟨rfl, K2.out.set_ 0 (.string ByteArray.empty), G2.out.set (.inr rfl) _⟩
theorem take_min (l : List UInt8) (n : Nat) : bys (l.take (min n (bys l).size)) = bys (l.take n) := by
  rw [bys_len]
  rcases Nat.lt_or_ge l.length n with h | h
  · rw [Nat.min_eq_right (by omega), List.take_of_length_le (Nat.le_refl _), List.take_of_length_le (by omega)]
  · rw [Nat.min_eq_left h]
set_option maxRecDepth 100000 in
set_option maxHeartbeats 2000000 in
theorem rbytes_any (gp : Nat) (s : List UInt8) (left : Int) (n : Nat) (w : World) (hK : Blk w gp 46 (rsC s left)) (hs : s.length ≤ 2000) :
    Calls Tryz.prog 38 #[.pointer (some ⟨gp, 0, none⟩), .int .i64 n] w fun e w' => e = .returned (.string (bys (s.take n))) ∧ Blk w' gp 46 (rsC (s.drop (n + 1)) left) ∧ Gr gp w w' := by
  have hz : (bys s).size ≤ 2000 := by rw [bys_len]; exact hs
  have HN := Lib.hid (take_min s n)
  have HD : Hid (bys (s.drop (min n (bys s).size + 1)) = bys (s.drop (n + 1))) := Lib.hid (by
    rw [bys_len]
    rcases Nat.lt_or_ge s.length n with h | h
    · rw [Nat.min_eq_right (by omega), List.drop_of_length_le (by omega), List.drop_of_length_le (by omega)]
    · rw [Nat.min_eq_left h])
  have hmin : min (n : Int) ((bys s).size : Int) = ((min n (bys s).size : Nat) : Int) := by omega
  have hk : min n (bys s).size ≤ (bys s).size := Nat.min_le_right _ _
  have c0 := hK.cell 0
  have f0 := hK.frozen 0
  have HK := Lib.hid hK
  clear hK hs
  dsimp only [rsC] at HK c0 f0
  rw [show bys (s.take n) = bys (s.take n) from rfl, ← HN.out]
  show Calls _ _ _ _ fun e w' => _ ∧ Blk w' gp _ #[.string (bys (s.drop (n + 1))), .int .i64 left] ∧ _
  rw [← HD.out]
  clear HN HD
  generalize min n (bys s).size = k at *
  go_enter Tryz.func38, Tryz.ntmps38
  go_upto_region 2 with (fail)
  have x1 := bys_take s k
  go_upto_region 3 with (fail)
  go_still_tail 14, (by kernel_rfl)
  rw [min_step (k := k) (n := (bys s).size) (by omega) (by omega)]
  have hm1 : (0 : Int) ≤ ((min (bys s).size (k + 1) : Nat) : Int) := by omega
  have hm2 : ((min (bys s).size (k + 1) : Nat) : Int) ≤ ((bys s).size : Int) := by omega
  repeat still_step
  refine wpStill_nil ?_
  change wpList _ _ _ _ _ w.drew
  have K2 := Lib.hid HK.out.drew
  have G2 := Lib.hid ((Gr.refl gp w).below (below_drew (Below.refl _ _)))
  have x3 := drop_min s k
  clear c0 f0
  have c0 := K2.out.cell 0
  have f0 := K2.out.frozen 0
  generalize w.drew = w2 at *
  go_wp2
  go_ret
  exact ⟨rfl, K2.out.set_ 0 _, G2.out.set (.inr rfl) _⟩
def bnd : Nat → Int
  | 0 => 0
  | 1 => 300
  | 2 => 4000
  | _ => 50000
theorem bnd_le {k : Nat} (h : k ≤ 3) : bnd k ≤ 50000 := by
  obtain rfl | rfl | rfl | rfl : k = 0 ∨ k = 1 ∨ k = 2 ∨ k = 3 := by omega
  all_goals decide
theorem bnd_step {k : Nat} {n c : Int} (hk : k < 3) (h1 : -bnd k ≤ n) (h2 : n ≤ bnd k) (hc0 : 0 ≤ c) (hc : c ≤ 255) : -bnd (k + 1) ≤ 10 * n + c - 48 ∧ 10 * n + c - 48 ≤ bnd (k + 1) := by
  obtain rfl | rfl | rfl : k = 0 ∨ k = 1 ∨ k = 2 := by omega
  all_goals simp only [bnd] at h1 h2 ⊢; omega
def foldI (l : List UInt8) : Int := l.foldl (fun n c => 10 * n + (c.toNat : Int) - 48) 0
theorem foldI_snoc (l : List UInt8) (k : Nat) (h : k < (bys l).size) : foldI (l.take (k + 1)) = 10 * foldI (l.take k) + ((bys l)[k].toNat : Int) - 48 := by
  unfold foldI
  rw [List.take_add_one, bys_get l k h, Option.toList_some, List.foldl_append]
  rfl
theorem numN_fold (l : List UInt8) (k : Nat) (h : k = 3 ∨ k = (bys l).size) (h3 : k ≤ 3) : (numN l : Int) = max 0 (foldI (l.take k)) := by
  have e : l.take k = l.take 3 := by
    rcases h with rfl | h
    · rfl
    · rw [h, bys_len, List.take_of_length_le (Nat.le_refl _), List.take_of_length_le (by rw [bys_len] at h; omega)]
  rw [e]
  unfold numN
  rw [Int.toNat_of_nonneg (by omega)]
  rfl
set_option maxRecDepth 100000 in
set_option maxHeartbeats 2000000 in
theorem rnumber_any (s : List UInt8) (w : World) (hs : s.length ≤ 2000) :
    Calls Tryz.prog 39 #[.string (bys s)] w fun e w' => (e = .returned (.int .i64 (numN s : Int)) ∧ numN s ≤ 50000) ∧ w = w' := by
  have hz : (bys s).size ≤ 2000 := by rw [bys_len]; exact hs
  clear hs
  go_enter Tryz.func39, Tryz.ntmps39
  go_wp2_with fail
  go_loop [3, 4] (fun n i => ∃ k : Nat, k ≤ (bys s).size ∧ k ≤ 3 ∧ i = .int .i64 k ∧ ∃ m : Int, n = .int .i64 m ∧ Hid (m = foldI (s.take k)) ∧ -bnd k ≤ m ∧ m ≤ bnd k) (fun _ i => 3 - (intOf i).toNat)
  case atStart => exact ⟨0, by omega, by omega, rfl, 0, rfl, Lib.hid rfl, by decide, by decide⟩
  case round =>
    obtain ⟨k, hk, hk3, rfl, m, rfl, HM, hb1, hb2⟩ := hrel
    have hb := bnd_le hk3
    by_cases hlt : k < (bys s).size
    · by_cases h3 : k < 3
      · have hc : (bys s)[k].toNat < 256 := UInt8.toNat_lt _
        have hst := bnd_step h3 hb1 hb2 (c := ((bys s)[k].toNat : Int)) (by omega) (by omega)
        have HF := Lib.hid (foldI_snoc s k hlt)
        rw [← HM.out] at HF
        have hm1 : -50000 ≤ m := by omega
        have hm2 : m ≤ 50000 := by omega
        clear hb
        go_wp2_with fail
        go_round
        case rel => exact ⟨k + 1, by omega, by omega, by go_num, _, rfl, Lib.hid (by rw [HF.out]), hst.1, hst.2⟩
        case measure => simp [intOf]; omega
      · have HN := Lib.hid (numN_fold s k (.inl (by omega)) hk3)
        rw [← HM.out] at HN
        clear HM
        go_wp2_with fail
        go_ret
        have h := HN.out
        exact ⟨⟨by rw [h]; rfl, by omega⟩, rfl⟩
    · have HN := Lib.hid (numN_fold s k (.inr (by omega)) hk3)
      rw [← HM.out] at HN
      clear HM
      go_wp2_with fail
      go_ret
      have h := HN.out
      exact ⟨⟨by rw [h]; rfl, by omega⟩, rfl⟩
theorem upL_len (w : List UInt8) : (upL w).length ≤ 1 := by
  unfold upL
  split
  · split <;> simp
  · simp
theorem wordL_len (s : List UInt8) : (wordL s).1.length ≤ s.length ∧ (wordL s).2.length ≤ s.length := by
  unfold wordL
  refine ⟨List.Sublist.length_le (List.takeWhile_sublist _), ?_⟩
  exact List.Sublist.length_le ((List.tail_sublist _).trans (List.dropWhile_sublist _))
theorem nameR_len (a s : List UInt8) : (nameR a s).1.length ≤ max (max a.length s.length) 1 ∧ (nameR a s).2.length ≤ s.length := by
  have h := wordL_len s
  unfold nameR
  split
  · refine ⟨?_, h.2⟩
    show (upL (wordL s).1).length ≤ _
    have := upL_len (wordL s).1
    omega
  · split
    · exact ⟨by omega, h.2⟩
    · exact ⟨by show a.length ≤ _; omega, Nat.le_refl _⟩
theorem sub_up {c : UInt8} (h1 : 97 ≤ c.toNat) (h2 : c.toNat ≤ 122) : c - 32 = UInt8.ofNat ((c.toNat : Int) - 97 + 65).toNat := by
  have : ∀ n : Nat, n < 256 → 97 ≤ n → n ≤ 122 → UInt8.ofNat n - 32 = UInt8.ofNat ((n : Int) - 97 + 65).toNat := by decide +kernel
  have := this c.toNat c.toNat_lt h1 h2
  rwa [UInt8.ofNat_toNat] at this
set_option maxRecDepth 100000 in
set_option maxHeartbeats 2000000 in
theorem rnam_any (gp : Nat) (a s : List UInt8) (left : Int) (w : World) (hK : Blk w gp 46 (rsC s left)) (hs : s.length ≤ 2000) :
    Calls Tryz.prog 40 #[.pointer (some ⟨gp, 0, none⟩), .string (bys a)] w fun e w' => e = .returned (.string (bys (nameR a s).1)) ∧ Blk w' gp 46 (rsC (nameR a s).2 left) ∧ Gr gp w w' := by
  have HW := Lib.hid (rword_any gp s left w hK hs)
  unfold nameR
  by_cases h1 : a = wCap
  · rw [if_pos h1]
    have q1 : ((bys a).toList == [99, 97, 112, 105, 116, 97, 108]) = true := by rw [beq_iff_eq, ByteArray.toList_eq, bys_data]; exact h1
    clear hK h1
    generalize wordL s = x at *
    obtain ⟨x, s'⟩ := x
    dsimp only at HW ⊢
    go_enter Tryz.func40, Tryz.ntmps40
    go_wp2_with fail
    refine HW.out.mono ?_
    rintro e w1 ⟨rfl, hK, hg⟩
    have HK := Lib.hid hK
    have HG := Lib.hid hg
    clear hK hg
    by_cases hz : (bys x).size = 1
    · obtain ⟨c, rfl⟩ : ∃ c, x = [c] := by
        rw [bys_len] at hz
        exact List.length_eq_one_iff.1 hz
      have hp : 0 < (bys [c]).size := by omega
      have hg0 : (bys [c])[0]'hp = c := rfl
      by_cases hc : 97 ≤ c.toNat ∧ c.toNat ≤ 122
      · obtain ⟨hc1, hc2⟩ := hc
        have HU := Lib.hid (show bys (upL [c]) = low1 ((c.toNat : Int) - 97 + 65) by show bys (if 97 ≤ c.toNat ∧ c.toNat ≤ 122 then [c - 32] else []) = _; unfold low1; rw [if_pos ⟨hc1, hc2⟩, sub_up hc1 hc2])
        have w1x : IntKind.u8.wrap ((c.toNat : Int) - 97) = c.toNat - 97 := by unfold IntKind.wrap; simp [IntKind.signed, IntKind.bits]; omega
        have w2x : IntKind.u8.wrap ((c.toNat : Int) - 97 + 65) = (c.toNat : Int) - 97 + 65 := by unfold IntKind.wrap; simp [IntKind.signed, IntKind.bits]; omega
        have HV := Lib.hid (conv_low w1 ((c.toNat : Int) - 97 + 65))
        have hv := HV.out
        have h97 : 97 ≤ ((bys [c])[0]'hp).toNat := hc1
        have h122 : ((bys [c])[0]'hp).toNat ≤ 122 := hc2
        go_wp2_with fail
        go_ret
        rw [HU.out]
        exact ⟨rfl, HK.out.alloc _, HG.out.below (bel_alloc _ _)⟩
      · have HU := Lib.hid (show bys (upL [c]) = ⟨#[]⟩ by show bys (if 97 ≤ c.toNat ∧ c.toNat ≤ 122 then [c - 32] else []) = _; rw [if_neg hc]; rfl)
        have hc' : c.toNat < 97 ∨ 122 < c.toNat := by omega
        clear hc
        rcases hc' with h | h
        · have hd : decide ((97 : Int) ≤ (c.toNat : Int)) = false := decide_eq_false (by omega)
          go_wp2_with fail
          go_ret
          rw [HU.out]
          exact ⟨rfl, HK.out, HG.out⟩
        · have h97 : 97 ≤ c.toNat := by omega
          have hd : decide ((c.toNat : Int) ≤ 122) = false := decide_eq_false (by omega)
          go_wp2_with fail
          go_ret
          rw [HU.out]
          exact ⟨rfl, HK.out, HG.out⟩
    · have HU := Lib.hid (show bys (upL x) = ⟨#[]⟩ by
        rw [bys_len] at hz
        unfold upL
        split
        · exact absurd rfl hz
        · rfl)
      have hz2 : ((↑(bys x).size : Int) == 1) = false := by rw [beq_eq_false_iff_ne]; omega
      go_wp2_with fail
      go_ret
      rw [HU.out]
      exact ⟨rfl, HK.out, HG.out⟩
  · rw [if_neg h1]
    have q1 : ((bys a).toList == [99, 97, 112, 105, 116, 97, 108]) = false := beq_bys h1
    clear h1
    by_cases h2 : a = wName
    · rw [if_pos h2]
      have q2 : ((bys a).toList == [110, 97, 109, 101]) = true := by rw [beq_iff_eq, ByteArray.toList_eq, bys_data]; exact h2
      clear hK h2
      go_enter Tryz.func40, Tryz.ntmps40
      go_wp2_with fail
      refine HW.out.mono ?_
      rintro e w1 ⟨rfl, hK, hg⟩
      go_wp2_with fail
      go_ret
      exact ⟨rfl, hK, hg⟩
    · rw [if_neg h2]
      have q2 : ((bys a).toList == [110, 97, 109, 101]) = false := beq_bys h2
      clear h2
      go_enter Tryz.func40, Tryz.ntmps40
      go_wp2_with fail
      go_ret
      exact ⟨rfl, hK, Gr.refl _ _⟩
end Go.Proofs.YtpokelkneblafaaGreatDoor
