/- The leaves of both Parse functions: numbers, a rule, digits, parts of a string. -/
import Derived.Test.YtgkfmeagpmjcoaaDoorPP
import Derived.Laws.BytesArg
namespace Go.Proofs.YtgkfmeagpmjcoaaDoor
open Go.RowKit
theorem ret_int {k : IntKind} {a b : Int} (h : a = b) : Ending.returned (.int k a) = .returned (.int k b) := by rw [h]
theorem valB_snoc (l : List UInt8) (c : UInt8) : valB (l ++ [c]) = 10 * valB l + ((c.toNat : Int) - 48) := by simp [valB]
theorem take_snoc (s : ByteArray) (k : Nat) (h : k < s.size) : s.data.toList.take (k + 1) = s.data.toList.take k ++ [s[k]] := by
  rw [List.take_succ_eq_append_getElem (by simpa using h)]; rfl
theorem valB_bd : ∀ (l : List UInt8), l.all digB = true → l.length ≤ 2 → 0 ≤ valB l ∧ valB l ≤ 99
  | [], _, _ => by simp [valB]
  | [a], h, _ => by simp [digB] at h; simp [valB]; omega
  | [a, b], h, _ => by simp [digB] at h; simp [valB]; omega
  | _ :: _ :: _ :: _, _, h => by simp at h
theorem num_no {s : ByteArray} {k : Nat} (hk : k < s.size) (h : digB s[k] = false) : numB s.data.toList = -1 := by
  unfold numB
  split
  · rfl
  · rw [if_neg]
    rw [Bool.not_eq_true, List.all_eq_false]
    exact ⟨s[k], Array.getElem_mem_toList _, by rw [h]; simp⟩
theorem num_yes {s : ByteArray} (h1 : 1 ≤ s.size) (h3 : s.size ≤ 3) (h : 1 < s.size → s[0] ≠ 48) (ha : s.data.toList.all digB = true) : numB s.data.toList = valB s.data.toList := by
  have hl : s.data.toList.length = s.size := by simp
  unfold numB
  rw [if_neg, if_pos ha]
  rw [hl]
  rintro (h' | h' | ⟨h', h4⟩)
  · omega
  · omega
  · apply h h'
    have : s.data.toList[0]? = some 48 := by rw [← List.head?_eq_getElem?]; exact h4
    rw [List.getElem?_eq_getElem (by omega)] at this
    exact Option.some.inj this
set_option maxHeartbeats 400000 in
theorem number_any (s : ByteArray) (w : World) (hs : s.size ≤ 9223372036854775807) : Calls Tryd.prog 56 #[.string s] w fun e w' => e = .returned (.int .i64 (numB s.data.toList)) ∧ w = w' := by
  have hl : s.data.toList.length = s.size := by simp
  by_cases h1 : s.size < 1
  · have HQ := Lib.hid (show numB s.data.toList = -1 by unfold numB; rw [if_pos (.inl (by omega))])
    clear hl
    go_enter Tryd.func56, Tryd.ntmps56
    go_wp2_with fail
    go_ret
    exact ⟨ret_int HQ.out.symm, rfl⟩
  by_cases h3 : 3 < s.size
  · have HQ := Lib.hid (show numB s.data.toList = -1 by unfold numB; rw [if_pos (.inr (.inl (by omega)))])
    clear hl
    go_enter Tryd.func56, Tryd.ntmps56
    go_wp2_with fail
    go_ret
    exact ⟨ret_int HQ.out.symm, rfl⟩
  by_cases h0 : 1 < s.size ∧ s[0] = 48
  · have HQ := Lib.hid (show numB s.data.toList = -1 by
      unfold numB; rw [if_pos (.inr (.inr ⟨by omega, by
        rw [List.head?_eq_getElem?, List.getElem?_eq_getElem (by omega)]
        exact congrArg some h0.2⟩))])
    obtain ⟨h2, h0e⟩ := h0
    have hq : ((s[0].toNat : Int) == 48) = true := by rw [h0e]; rfl
    clear h0e
    have HL0 := Lib.hid hl
    go_enter Tryd.func56, Tryd.ntmps56
    go_wp2_with fail
    go_ret
    exact ⟨ret_int HQ.out.symm, rfl⟩
  have hs1 : 1 ≤ s.size := by omega
  have hs3 : s.size ≤ 3 := by omega
  have HY := Lib.hid (fun ha => num_yes (s := s) (by omega) (by omega) (fun h e => h0 ⟨h, e⟩) ha)
  have HN := Lib.hid (fun (k : Nat) (hk : k < s.size) (h : digB s[k] = false) => num_no hk h)
  have HL := Lib.hid hl
  have body : Calls Tryd.prog 56 #[.string s] w fun e w' => e = .returned (.int .i64 (numB s.data.toList)) ∧ w = w' := by
    by_cases h2 : 1 < s.size
    · have hq : ((s[0].toNat : Int) == 48) = false := by
        rw [beq_eq_false_iff_ne]; intro e; apply h0; refine ⟨h2, UInt8.toNat_inj.1 ?_⟩
        show s[0].toNat = 48
        omega
      clear h0 hl
      go_enter Tryd.func56, Tryd.ntmps56
      go_wp2_with fail
      go_loop [3, 4] (fun n i => ∃ k : Nat, k ≤ s.size ∧ i = .int .i64 k ∧ n = .int .i64 (valB (s.data.toList.take k)) ∧ Hid ((s.data.toList.take k).all digB = true)) (fun _ i => s.size - (intOf i).toNat)
      case atStart => exact ⟨0, by omega, rfl, rfl, rfl⟩
      case round =>
        obtain ⟨k, hk, rfl, rfl, HA⟩ := hrel
        by_cases hlt : k < s.size
        · have hb := valB_bd (s.data.toList.take k) HA.out (by simp; omega)
          have HN1 := Lib.hid (HN.out k hlt)
          have hc : (s[k].toNat : Int) ≤ 255 := by have := s[k].toNat_lt; omega
          by_cases c1 : (s[k].toNat : Int) < 48
          · have HQ := Lib.hid (HN1.out (by unfold digB; rw [decide_eq_false (by omega)]; rfl))
            go_wp2_with fail
            go_ret
            exact ⟨ret_int HQ.out.symm, rfl⟩
          · by_cases c2 : 57 < (s[k].toNat : Int)
            · have HQ := Lib.hid (HN1.out (by unfold digB; rw [decide_eq_false (p := s[k].toNat ≤ 57) (by omega), Bool.and_false]))
              go_wp2_with fail
              go_ret
              exact ⟨ret_int HQ.out.symm, rfl⟩
            · have HS := Lib.hid (show valB (s.data.toList.take (k + 1)) = 10 * valB (s.data.toList.take k) + ((s[k].toNat : Int) - 48) by rw [take_snoc s k hlt, valB_snoc])
              have HS2 := Lib.hid (show (s.data.toList.take (k + 1)).all digB = true by rw [take_snoc s k hlt, List.all_append, HA.out]; simp [digB]; omega)
              have hw : IntKind.u8.wrap ((s[k].toNat : Int) - 48) = (s[k].toNat : Int) - 48 := by unfold IntKind.wrap; simp [IntKind.signed, IntKind.bits]; omega
              go_wp2_with fail
              go_round
              case rel => exact ⟨k + 1, by omega, by go_num, by rw [HS.out], HS2⟩
              case measure => simp [intOf]; omega
        · have HE := Lib.hid (show s.data.toList.take k = s.data.toList from List.take_of_length_le (by simp; omega))
          have HQ := Lib.hid (HY.out (by rw [← HE.out]; exact HA.out))
          go_wp2_with fail
          go_ret
          exact ⟨ret_int (by rw [HQ.out, HE.out]), rfl⟩
    · clear h0 hl
      go_enter Tryd.func56, Tryd.ntmps56
      go_wp2_with fail
      go_loop [3, 4] (fun n i => ∃ k : Nat, k ≤ s.size ∧ i = .int .i64 k ∧ n = .int .i64 (valB (s.data.toList.take k)) ∧ Hid ((s.data.toList.take k).all digB = true)) (fun _ i => s.size - (intOf i).toNat)
      case atStart => exact ⟨0, by omega, rfl, rfl, rfl⟩
      case round =>
        obtain ⟨k, hk, rfl, rfl, HA⟩ := hrel
        by_cases hlt : k < s.size
        · have hb := valB_bd (s.data.toList.take k) HA.out (by simp; omega)
          have HN1 := Lib.hid (HN.out k hlt)
          have hc : (s[k].toNat : Int) ≤ 255 := by have := s[k].toNat_lt; omega
          by_cases c1 : (s[k].toNat : Int) < 48
          · have HQ := Lib.hid (HN1.out (by unfold digB; rw [decide_eq_false (by omega)]; rfl))
            go_wp2_with fail
            go_ret
            exact ⟨ret_int HQ.out.symm, rfl⟩
          · by_cases c2 : 57 < (s[k].toNat : Int)
            · have HQ := Lib.hid (HN1.out (by unfold digB; rw [decide_eq_false (p := s[k].toNat ≤ 57) (by omega), Bool.and_false]))
              go_wp2_with fail
              go_ret
              exact ⟨ret_int HQ.out.symm, rfl⟩
            · have HS := Lib.hid (show valB (s.data.toList.take (k + 1)) = 10 * valB (s.data.toList.take k) + ((s[k].toNat : Int) - 48) by rw [take_snoc s k hlt, valB_snoc])
              have HS2 := Lib.hid (show (s.data.toList.take (k + 1)).all digB = true by rw [take_snoc s k hlt, List.all_append, HA.out]; simp [digB]; omega)
              have hw : IntKind.u8.wrap ((s[k].toNat : Int) - 48) = (s[k].toNat : Int) - 48 := by unfold IntKind.wrap; simp [IntKind.signed, IntKind.bits]; omega
              go_wp2_with fail
              go_round
              case rel => exact ⟨k + 1, by omega, by go_num, by rw [HS.out], HS2⟩
              case measure => simp [intOf]; omega
        · have HE := Lib.hid (show s.data.toList.take k = s.data.toList from List.take_of_length_le (by simp; omega))
          have HQ := Lib.hid (HY.out (by rw [← HE.out]; exact HA.out))
          go_wp2_with fail
          go_ret
          exact ⟨ret_int (by rw [HQ.out, HE.out]), rfl⟩
  exact body
def rvalB (l : List UInt8) : Int := l.foldl (fun n c => 10 * n + (c.toNat : Int) - 48) 0
theorem rvalB_snoc (l : List UInt8) (c : UInt8) : rvalB (l ++ [c]) = 10 * rvalB l + (c.toNat : Int) - 48 := by simp [rvalB]
theorem rval_bd : ∀ (l : List UInt8), l.length ≤ 2 → -100000 ≤ rvalB l ∧ rvalB l ≤ 100000
  | [], _ => by simp [rvalB]
  | [a], _ => by have := a.toNat_lt; simp [rvalB]; omega
  | [a, b], _ => by have := a.toNat_lt; have := b.toNat_lt; simp [rvalB]; omega
  | _ :: _ :: _ :: _, h => by simp at h
set_option maxHeartbeats 400000 in
theorem rnumber_any (s : ByteArray) (w : World) (hs : s.size ≤ 9223372036854775807) : Calls Tryd.prog 58 #[.string s] w fun e w' => e = .returned (.int .i64 (rnumB s.data.toList)) ∧ w = w' := by
  go_enter Tryd.func58, Tryd.ntmps58
  go_wp2_with fail
  go_loop [3, 4] (fun n i => ∃ k : Nat, k ≤ s.size ∧ k ≤ 3 ∧ i = .int .i64 k ∧ n = .int .i64 (rvalB (s.data.toList.take k))) (fun _ i => s.size - (intOf i).toNat)
  case atStart => exact ⟨0, by omega, by omega, rfl, rfl⟩
  case round =>
    obtain ⟨k, hk, hk3, rfl, rfl⟩ := hrel
    by_cases hlt : k < s.size
    · by_cases h3 : k < 3
      · have hb := rval_bd (s.data.toList.take k) (by simp; omega)
        have HS := Lib.hid (show rvalB (s.data.toList.take (k + 1)) = 10 * rvalB (s.data.toList.take k) + (s[k].toNat : Int) - 48 by rw [take_snoc s k hlt, rvalB_snoc])
        have hc : (s[k].toNat : Int) ≤ 255 := by have := s[k].toNat_lt; omega
        have hc0 : 0 ≤ (s[k].toNat : Int) := by omega
        go_wp2_with fail
        go_round
        case rel => exact ⟨k + 1, by omega, by omega, by go_num, by rw [HS.out]⟩
        case measure => simp [intOf]; omega
      · obtain rfl : k = 3 := by omega
        go_wp2_with fail
        go_ret
        exact ⟨rfl, rfl⟩
    · have HE := Lib.hid (show s.data.toList.take k = s.data.toList.take 3 by
        rw [List.take_of_length_le (by simp; omega), List.take_of_length_le (by simp; omega)])
      go_wp2_with fail
      go_ret
      exact ⟨ret_int (by rw [HE.out]; rfl), rfl⟩
set_option maxHeartbeats 400000 in
theorem rule_any (r : Rul) (w : World) : Calls Tryd.prog 39 #[.int .i64 r.kind, .string r.sym, .string r.nam, .int .i64 r.prec, .int .i64 r.left, .int .i64 r.right] w fun e w' => e = .returned r.v ∧ Below w.heap.size w w' := by
  go_enter Tryd.func39, Tryd.ntmps39
  go_wp2_with fail
  refine bodyPost_ret (v := r.v) (by simp [results, Tryd.results39, go_sem]) rfl ⟨rfl, ?_⟩
  repeat' (first | (with_reducible exact Below.refl _ _) | (with_reducible refine Below.setCell ?_ ?_ _) | (with_reducible refine Below.alloc ?_ ?_ _) | go_size)
theorem dig_small {n : Int} (h0 : 0 ≤ n) (h : n < 10) : Lib.decDigits n.toNat = [UInt8.ofNat (48 + n.toNat)] := by
  rw [Lib.decDigits, dif_pos (by omega)]
theorem dig_big {n : Int} (h : 10 ≤ n) : Lib.decDigits n.toNat = Lib.decDigits (n / 10).toNat ++ Lib.decDigits (n % 10).toNat := by
  rw [dig_small (n := n % 10) (by omega) (by omega), Lib.decDigits, dif_neg (by omega)]
  rw [show (n / 10).toNat = n.toNat / 10 by omega, show (n % 10).toNat = n.toNat % 10 by omega]
theorem dig_len {n : Int} (h0 : 0 ≤ n) (h1 : n ≤ 9223372036854775807) : (bys (Lib.decDigits n.toNat)).size ≤ 21 := by
  have := Lib.itoa_length_le n (by omega) h1
  unfold Lib.itoa at this
  rw [if_neg (by omega)] at this
  simpa [bys, ByteArray.size] using this
theorem bys_app (a b : List UInt8) : bys a ++ bys b = bys (a ++ b) := by
  apply ByteArray.ext
  simp [bys, ByteArray.data_append]
def dgB (n : Int) : ByteArray := bys [UInt8.ofNat n.toNat]
theorem conv_dig (w : World) (n : Int) : (convert 43 9 (.slice (some ⟨w.heap.size, 0, none⟩) 1 1)).run Tryd.prog (w.alloc (.cells #[.int .u8 n] 5)) = .ok (.string (dgB n)) (w.alloc (.cells #[.int .u8 n] 5)) :=
  run_convert_bytes_arg (P := Tryd.prog) _ 43 5 Tryd.underlying43 Tryd.underlying5 w.heap.size 0 1 1 [n] rfl (fun i hi => by
    obtain rfl : i = 0 := by omega
    exact Blk.cell (Blk.new w 5 #[.int .u8 n]) 0) 9 Tryd.underlying9
set_option maxHeartbeats 400000 in
theorem digits_small (n : Int) (w : World) (h0 : 0 ≤ n) (h : n < 10) : Calls Tryd.prog 57 #[.int .i64 n] w fun e w' => e = .returned (.string (dgB (48 + n))) ∧ Below w.heap.size w w' := by
  have hc := conv_dig w (48 + n)
  have hw : IntKind.u8.wrap (48 + n) = 48 + n := by unfold IntKind.wrap; simp [IntKind.signed, IntKind.bits]; omega
  go_enter Tryd.func57, Tryd.ntmps57
  go_wp2_with fail
  go_ret
  exact ⟨rfl, (Below.refl _ _).alloc (Nat.le_refl _) _⟩
set_option maxHeartbeats 400000 in
theorem digits_any (k : Nat) : ∀ (n : Int) (w : World), n < k → 0 ≤ n → n ≤ 9223372036854775807 → Calls Tryd.prog 57 #[.int .i64 n] w fun e w' => e = .returned (.string (bys (Lib.decDigits n.toNat))) ∧ Below w.heap.size w w' := by
  induction k with
  | zero => intro n w h1 h2; omega
  | succ k ih =>
    intro n w hk h0 h1
    have IH := Lib.hid ih
    clear ih
    by_cases hs : n < 10
    · have e : bys (Lib.decDigits n.toNat) = dgB (48 + n) := by rw [dig_small h0 hs]; unfold dgB; rw [show (48 + n).toNat = 48 + n.toNat by omega]
      rw [e]
      exact digits_small n w h0 hs
    · rw [dig_big (n := n) (by omega), ← bys_app]
      have s1 := dig_len (n := n / 10) (by omega) (by omega)
      have s2 := dig_len (n := n % 10) (by omega) (by omega)
      go_enter Tryd.func57, Tryd.ntmps57
      go_wp2_with fail
      refine (IH.out (n / 10) _ (by omega) (by omega) (by omega)).mono ?_
      rintro e w1 ⟨rfl, hb1⟩
      have B1 := Lib.hid hb1
      clear hb1
      go_wp2_with fail
      refine (IH.out (n % 10) _ (by omega) (by omega) (by omega)).mono ?_
      rintro e w2 ⟨rfl, hb2⟩
      have B2 := Lib.hid (B1.out.trans (hb2.mono B1.out.size))
      clear hb2 B1
      go_wp2_with fail
      go_ret
      exact ⟨rfl, B2.out⟩

theorem dec_any (n : Int) (w : World) (h0 : 0 ≤ n) (h1 : n ≤ 9223372036854775807) : Calls Tryd.prog 57 #[.int .i64 n] w fun e w' => e = .returned (.string (bys (Lib.decDigits n.toNat))) ∧ Below w.heap.size w w' :=
  digits_any (n.toNat + 1) n w (by omega) h0 h1
def SplitInv (c : UInt8) (l : List UInt8) (k f : Nat) (done : List (List UInt8)) : Prop :=
  done.length ≤ k ∧ (k ≤ l.length → f ≤ k ∧ done ++ splitL c (l.drop f) = splitL c l ∧ c ∉ (l.drop f).take (k - f)) ∧ (¬ k ≤ l.length → done = splitL c l)
theorem inv_start (c : UInt8) (l : List UInt8) : SplitInv c l 0 0 [] := ⟨by simp, fun _ => ⟨by omega, by simp, by simp⟩, fun h => absurd (Nat.zero_le _) h⟩
/-- a byte of another kind -/
theorem inv_skip {c : UInt8} {l : List UInt8} {k f : Nat} {done : List (List UInt8)} (h : SplitInv c l k f done) (hk : k < l.length) (hne : l[k] ≠ c) : SplitInv c l (k + 1) f done := by
  obtain ⟨h0, h1, _⟩ := h
  obtain ⟨hf, h2, h3⟩ := h1 (by omega)
  refine ⟨by omega, fun _ => ⟨by omega, h2, ?_⟩, fun h => by omega⟩
  have hlt : k - f < (l.drop f).length := by rw [List.length_drop]; omega
  rw [show k + 1 - f = (k - f) + 1 by omega, List.take_succ_eq_append_getElem hlt, List.mem_append]
  rintro (h | h)
  · exact h3 h
  · rw [List.mem_singleton, List.getElem_drop] at h
    apply hne
    rw [h]
    congr 1
    omega
theorem drop_parts {l : List UInt8} {k f : Nat} (hf : f ≤ k) (hk : k < l.length) : l.drop f = (l.drop f).take (k - f) ++ l[k] :: l.drop (k + 1) := by
  have hlt : k - f < (l.drop f).length := by rw [List.length_drop]; omega
  have h2 : (l.drop f)[k - f] = l[k] := by rw [List.getElem_drop]; congr 1; omega
  have h3 := List.drop_eq_getElem_cons hlt
  rw [h2, List.drop_drop, List.drop_drop] at h3
  rw [show f + (k - f) = k by omega, show f + (k - f + 1) = k + 1 by omega] at h3
  conv => lhs; rw [← List.take_append_drop (k - f) (l.drop f)]
  rw [List.drop_drop, show f + (k - f) = k by omega, h3]
/-- a byte of the kind -/
theorem inv_cut {c : UInt8} {l : List UInt8} {k f : Nat} {done : List (List UInt8)} (h : SplitInv c l k f done) (hk : k < l.length) (he : l[k] = c) : SplitInv c l (k + 1) (k + 1) (done ++ [(l.drop f).take (k - f)]) := by
  obtain ⟨h0, h1, _⟩ := h
  obtain ⟨hf, h2, h3⟩ := h1 (by omega)
  refine ⟨by simp; omega, fun _ => ⟨by omega, ?_, by simp⟩, fun h => by omega⟩
  have e := congrArg (splitL c) (drop_parts hf hk)
  rw [he, splitL_app h3] at e
  rw [← h2, e, List.append_assoc]
  rfl
theorem inv_end {c : UInt8} {l : List UInt8} {k f : Nat} {done : List (List UInt8)} (h : SplitInv c l k f done) (hk : k = l.length) : SplitInv c l (k + 1) (k + 1) (done ++ [(l.drop f).take (k - f)]) := by
  obtain ⟨h0, h1, _⟩ := h
  obtain ⟨hf, h2, h3⟩ := h1 (by omega)
  have e : (l.drop f).take (k - f) = l.drop f := List.take_of_length_le (by rw [List.length_drop]; omega)
  rw [e] at h3 ⊢
  refine ⟨by simp; omega, fun h => by omega, fun _ => ?_⟩
  rw [← h2, splitL_none h3]
theorem extract_bys (s : ByteArray) (j k : Nat) : s.extract j k = bys ((s.data.toList.drop j).take (k - j)) := by
  rw [← data_bys (s.extract j k), Lib.extract_data]
theorem app_below {w wr w1 : World} {o : Obj} {v : Value} {e : TypeId} {n : Nat} {xs : List Value} (hown : wr.ownsRow w.heap.size e 1 v n xs) (hb : Below w.heap.size w wr) (hg : (wr.alloc o).grownBy w1 v.ownBlock) : Below w.heap.size w w1 :=
  (hb.alloc hb.size o).grown hg (by rw [World.size_alloc]; have := hb.size; omega) (fun k hk => (hown.lt k hk).1)
def OwnsStrs (w0 : World) (ps : List (List UInt8)) (e : Ending) (w' : World) : Prop := ∃ v, e = .returned v ∧ w'.ownsRow w0.heap.size 9 1 v ps.length (ps.map (fun p => Value.string (bys p))) ∧ Below w0.heap.size w0 w'
set_option maxRecDepth 100000 in
set_option maxHeartbeats 800000 in
theorem rsplit_any (s : ByteArray) (c : UInt8) (w : World) (hs : s.size ≤ 1000000) : Calls Tryd.prog 37 #[.string s, .int .u8 (c.toNat : Int)] w (OwnsStrs w (splitL c s.data.toList)) := by
  obtain ⟨i0, hi, hz0, hz1, hz2⟩ := info_parts info_str
  go_enter Tryd.func37, Tryd.ntmps37
  go_wp2_with fail
  go_loopw [5, 6, 7] (fun v f i wr => ∃ (k j : Nat) (done : List (List UInt8)), k ≤ s.size + 1 ∧ i = .int .i64 k ∧ f = .int .i64 j ∧ Hid (SplitInv c s.data.toList k j done) ∧ wr.ownsRow w.heap.size 9 1 v done.length (done.map (fun p => Value.string (bys p))) ∧ Hid (Below w.heap.size w wr)) (fun _ _ i _ => s.size + 1 - (intOf i).toNat)
  case atStart => exact ⟨0, 0, [], by omega, rfl, rfl, inv_start _ _, World.ownsRow_nil _ _ _ _, Below.refl _ _⟩
  case round =>
    obtain ⟨k, j, done, hk, rfl, rfl, HI, hown, H0⟩ := hrel
    by_cases hle : k ≤ s.size
    · have hd := HI.out.1
      have hj := (HI.out.2.1 hle).1
      by_cases hlt : k < s.size
      · have hne : ((k : Int) == (s.size : Int)) = false := beq_eq_false_iff_ne.2 (by omega)
        have hkl : k < s.data.toList.length := by simpa using hlt
        by_cases hc : s.data.toList[k] = c
        · have hq : ((s[k].toNat : Int) == (c.toNat : Int)) = true := by rw [← hc]; simp; rfl
          go_wp2_with (at_builtin; refine wpList_append_own _ rfl (.tmp 25) (.tmp 30) 27 rfl w.heap.size 9 i0 (.string ⟨#[]⟩) 1 16 Tryd.underlying27 hi hz0 hz1 hz2 rfl (by decide) _ _ _ rfl (hown.alloc _) ⟨wr.heap.size, 0, none⟩ 1 1 [.string (s.extract j k)] rfl rfl ?c1a ?c2a ?c3a ?c4a ?c5a ?_)
          case c1a => intro j u hj; match j, hj with | 0, hj => simp at hj; subst hj; simp [Addr.add]
          case c2a => intro u hu; simp at hu; subst hu; rfl
          case c3a => unfold maxLen; omega
          case c4a => omega
          case c5a => have := H0.out.size; simp; omega
          · intro v' w2 hown' hgrow _
            have NB := Lib.hid (app_below hown H0.out hgrow)
            have NI := Lib.hid (inv_cut HI.out hkl hc)
            rw [extract_bys] at hown'
            have NO := Lib.hid hown'
            clear hown' hgrow hown H0
            go_wp2_with fail
            go_roundw
            case rel => exact ⟨k + 1, k + 1, done ++ [(s.data.toList.drop j).take (k - j)], by omega, by go_num, by go_num, NI, by simpa using NO.out, NB⟩
            case measure => simp [intOf]; omega
        · have hq : ((s[k].toNat : Int) == (c.toNat : Int)) = false := by
            rw [beq_eq_false_iff_ne]; intro e; apply hc
            have : s[k].toNat = c.toNat := by omega
            exact UInt8.toNat_inj.1 this
          have NI := Lib.hid (inv_skip HI.out hkl hc)
          have NO := Lib.hid hown
          clear hown
          go_wp2_with fail
          go_roundw
          case rel => exact ⟨k + 1, j, done, by omega, by go_num, rfl, NI, NO.out, H0⟩
          case measure => simp [intOf]; omega
      · have hne : ((k : Int) == (s.size : Int)) = true := beq_iff_eq.2 (by omega)
        go_wp2_with (at_builtin; refine wpList_append_own _ rfl (.tmp 25) (.tmp 30) 27 rfl w.heap.size 9 i0 (.string ⟨#[]⟩) 1 16 Tryd.underlying27 hi hz0 hz1 hz2 rfl (by decide) _ _ _ rfl (hown.alloc _) ⟨wr.heap.size, 0, none⟩ 1 1 [.string (s.extract j k)] rfl rfl ?c1b ?c2b ?c3b ?c4b ?c5b ?_)
        case c1b => intro j u hj; match j, hj with | 0, hj => simp at hj; subst hj; simp [Addr.add]
        case c2b => intro u hu; simp at hu; subst hu; rfl
        case c3b => unfold maxLen; omega
        case c4b => omega
        case c5b => have := H0.out.size; simp; omega
        · intro v' w2 hown' hgrow _
          have NB := Lib.hid (app_below hown H0.out hgrow)
          have NI := Lib.hid (inv_end HI.out (show k = s.data.toList.length by rw [Array.length_toList]; show k = s.size; omega))
          rw [extract_bys] at hown'
          have NO := Lib.hid hown'
          clear hown' hgrow hown H0
          go_wp2_with fail
          go_roundw
          case rel => exact ⟨k + 1, k + 1, done ++ [(s.data.toList.drop j).take (k - j)], by omega, by go_num, by go_num, NI, by simpa using NO.out, NB⟩
          case measure => simp [intOf]; omega
    · have HD := Lib.hid (HI.out.2.2 (by rw [Array.length_toList]; show ¬ k ≤ s.size; exact hle))
      have NO := Lib.hid hown
      clear hown
      go_wp2_with fail
      go_ret
      exact ⟨_, rfl, by rw [← HD.out]; exact NO.out, H0.out⟩
end Go.Proofs.YtgkfmeagpmjcoaaDoor
