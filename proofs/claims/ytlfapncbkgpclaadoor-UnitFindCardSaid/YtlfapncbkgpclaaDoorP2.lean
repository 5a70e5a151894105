/- Digits and Number return the numeral; bases the names; both Text functions the text of every dimension. -/
import Derived.Test.YtlfapncbkgpclaaDoorP1
import Derived.Laws.BytesArg
namespace Go.Proofs.YtlfapncbkgpclaaDoor
open Go.RowKit
theorem dig_small {n : Int} (h0 : 0 ≤ n) (h : n < 10) : Lib.decDigits n.toNat = [UInt8.ofNat (48 + n.toNat)] := by
  rw [Lib.decDigits, dif_pos (by omega)]
theorem dig_big {n : Int} (h : 10 ≤ n) : Lib.decDigits n.toNat = Lib.decDigits (n / 10).toNat ++ Lib.decDigits (n % 10).toNat := by
  rw [dig_small (n := n % 10) (by omega) (by omega), Lib.decDigits, dif_neg (by omega)]
  rw [show (n / 10).toNat = n.toNat / 10 by omega, show (n % 10).toNat = n.toNat % 10 by omega]
theorem dig_len {n : Int} (h0 : 0 ≤ n) (h1 : n ≤ 9223372036854775807) : (bys (Lib.decDigits n.toNat)).size ≤ 21 := by
  have := Lib.itoa_length_le n (by omega) h1
  unfold Lib.itoa at this
  rw [if_neg (by omega)] at this
  simpa [bys, ByteArray.size] using this
theorem bys_app (a b : List UInt8) : bys a ++ bys b = bys (a ++ b) := by
  apply ByteArray.ext
  simp [bys, ByteArray.data_append]
def dgB (n : Int) : ByteArray := bys [UInt8.ofNat n.toNat]
theorem conv_dig (w : World) (n : Int) : (convert 102 9 (.slice (some ⟨w.heap.size, 0, none⟩) 1 1)).run Tryd.prog (w.alloc (.cells #[.int .u8 n] 5)) = .ok (.string (dgB n)) (w.alloc (.cells #[.int .u8 n] 5)) :=
  run_convert_bytes_arg (P := Tryd.prog) _ 102 5 Tryd.underlying102 Tryd.underlying5 w.heap.size 0 1 1 [n] rfl (fun i hi => by
    obtain rfl : i = 0 := by omega
    exact Blk.cell (Blk.new w 5 #[.int .u8 n]) 0) 9 Tryd.underlying9
set_option maxHeartbeats 400000 in
theorem digits_small (n : Int) (w : World) (h0 : 0 ≤ n) (h : n < 10) : Calls Tryd.prog 78 #[.int .i64 n] w fun e w' => e = .returned (.string (dgB (48 + n))) ∧ Below w.heap.size w w' := by
  have hc := conv_dig w (48 + n)
  have hw : IntKind.u8.wrap (48 + n) = 48 + n := by unfold IntKind.wrap; simp [IntKind.signed, IntKind.bits]; omega
  go_enter Tryd.func78, Tryd.ntmps78
  go_wp2_with fail
  go_ret
  exact ⟨rfl, (Below.refl _ _).alloc (Nat.le_refl _) _⟩
set_option maxHeartbeats 400000 in
theorem digits_any (k : Nat) : ∀ (n : Int) (w : World), n < k → 0 ≤ n → n ≤ 9223372036854775807 → Calls Tryd.prog 78 #[.int .i64 n] w fun e w' => e = .returned (.string (bys (Lib.decDigits n.toNat))) ∧ Below w.heap.size w w' := by
  induction k with
  | zero => intro n w h1 h2; omega
  | succ k ih =>
    intro n w hk h0 h1
    have IH := Lib.hid ih
    clear ih
    by_cases hs : n < 10
    · have e : bys (Lib.decDigits n.toNat) = dgB (48 + n) := by rw [dig_small h0 hs]; unfold dgB; rw [show (48 + n).toNat = 48 + n.toNat by omega]
      rw [e]
      exact digits_small n w h0 hs
    · rw [dig_big (n := n) (by omega), ← bys_app]
      have s1 := dig_len (n := n / 10) (by omega) (by omega)
      have s2 := dig_len (n := n % 10) (by omega) (by omega)
      go_enter Tryd.func78, Tryd.ntmps78
      go_wp2_with fail
      refine (IH.out (n / 10) _ (by omega) (by omega) (by omega)).mono ?_
      rintro e w1 ⟨rfl, hb1⟩
      have B1 := Lib.hid hb1
      clear hb1
      go_wp2_with fail
      refine (IH.out (n % 10) _ (by omega) (by omega) (by omega)).mono ?_
      rintro e w2 ⟨rfl, hb2⟩
      have B2 := Lib.hid (B1.out.trans (hb2.mono B1.out.size))
      clear hb2 B1
      go_wp2_with fail
      go_ret
      exact ⟨rfl, B2.out⟩

theorem dec_any (n : Int) (w : World) (h0 : 0 ≤ n) (h1 : n ≤ 9223372036854775807) : Calls Tryd.prog 78 #[.int .i64 n] w fun e w' => e = .returned (.string (bys (Lib.decDigits n.toNat))) ∧ Below w.heap.size w w' :=
  digits_any (n.toNat + 1) n w (by omega) h0 h1
set_option maxHeartbeats 400000 in
theorem numeral_any (n : Int) (w : World) (h0 : -9223372036854775807 ≤ n) (h1 : n ≤ 9223372036854775807) : Calls Tryd.prog 60 #[.int .i64 n] w fun e w' => e = .returned (.string (bys (Lib.itoa n))) ∧ Below w.heap.size w w' := by
  by_cases hn : n < 0
  · have e : bys (Lib.itoa n) = ⟨#[45]⟩ ++ bys (Lib.decDigits (-n).toNat) := by
      unfold Lib.itoa; rw [if_pos hn, show n.natAbs = (-n).toNat by omega]; exact (bys_app [45] _).symm
    rw [e]
    have s1 := dig_len (n := -n) (by omega) (by omega)
    go_enter Tryd.func60, Tryd.ntmps60
    go_wp2_with fail
    refine (dec_any (-n) _ (by omega) (by omega)).mono ?_
    rintro e w1 ⟨rfl, hb1⟩
    have B1 := Lib.hid hb1
    clear hb1
    go_wp2_with fail
    go_ret
    exact ⟨rfl, B1.out⟩
  · have e : bys (Lib.itoa n) = bys (Lib.decDigits n.toNat) := by unfold Lib.itoa; rw [if_neg hn]
    rw [e]
    go_enter Tryd.func60, Tryd.ntmps60
    go_wp2_with fail
    refine (dec_any n _ (by omega) (by omega)).mono ?_
    rintro e w1 ⟨rfl, hb1⟩
    have B1 := Lib.hid hb1
    clear hb1
    go_wp2_with fail
    go_ret
    exact ⟨rfl, B1.out⟩
set_option maxHeartbeats 400000 in
theorem bases_any (w : World) : Calls Tryd.prog 42 #[] w fun e w' => e = .returned baseV ∧ Below w.heap.size w w' := by
  go_enter Tryd.func42, Tryd.ntmps42
  go_wp2_with fail
  go_returns
  exact ⟨rfl, by repeat' (first | (with_reducible exact Below.refl _ _) | (with_reducible refine Below.alloc ?_ ?_ _) | go_size)⟩
def textAll (d : D7) : ByteArray := if d.ok then textB d else ⟨#[]⟩
set_option maxHeartbeats 400000 in
theorem text_bad (d : D7) (w : World) (hd : d.ok = false) : Calls Tryd.prog 29 #[d.v] w fun e w' => e = .returned (.string ⟨#[]⟩) ∧ Below w.heap.size w w' := by
  have HD := Lib.hid hd
  clear hd
  go_enter Tryd.func29, Tryd.ntmps29
  go_wp2_with fail
  refine (valid_any d _).mono ?_
  rintro e w' ⟨rfl, rfl⟩
  rw [HD.out]
  go_wp2_with fail
  go_ret
  exact ⟨rfl, ((Below.refl _ _).alloc (Nat.le_refl _) _).alloc (by simp) _⟩
theorem text_any (d : D7) (w : World) (ht : Tab w) : Calls Tryd.prog 29 #[d.v] w fun e w' => e = .returned (.string (textAll d)) ∧ Below w.heap.size w w' := by
  unfold textAll
  cases hd : d.ok
  · exact text_bad d w hd
  · exact text_ok d w hd ht
set_option maxHeartbeats 400000 in
theorem rtext_bad (d : D7) (w : World) (hd : d.ok = false) : Calls Tryd.prog 33 #[d.v] w fun e w' => e = .returned (.string ⟨#[]⟩) ∧ Below w.heap.size w w' := by
  have HD := Lib.hid hd
  clear hd
  go_enter Tryd.func33, Tryd.ntmps33
  go_wp2_with fail
  refine (rvalid_any d _).mono ?_
  rintro e w' ⟨rfl, rfl⟩
  rw [HD.out]
  go_wp2_with fail
  go_ret
  exact ⟨rfl, ((Below.refl _ _).alloc (Nat.le_refl _) _).alloc (by simp) _⟩
theorem part_one (k : Nat) : bys (partL k 1) = baseB k := by unfold partL; rw [if_pos rfl, data_bys]
theorem part_else (k : Nat) {x : Int} (h : x ≠ 1) : bys (partL k x) = baseB k ++ (⟨#[94]⟩ ++ bys (Lib.itoa x)) := by
  unfold partL; rw [if_neg h]
  apply ByteArray.ext
  simp [bys, ByteArray.data_append]
theorem it_len {n : Int} (h0 : -9223372036854775808 ≤ n) (h1 : n ≤ 9223372036854775807) : (bys (Lib.itoa n)).size ≤ 21 := by
  have := Lib.itoa_length_le n h0 h1
  simpa [bys, ByteArray.size] using this
set_option maxRecDepth 100000 in
set_option maxHeartbeats 800000 in
theorem rtext_ok (d : D7) (w : World) (hd : d.ok = true) : Calls Tryd.prog 33 #[d.v] w fun e w' => e = .returned (.string (textB d)) ∧ Below w.heap.size w w' := by
  have HD := Lib.hid hd
  clear hd
  go_enter Tryd.func33, Tryd.ntmps33
  go_wp2_with fail
  refine (rvalid_any d _).mono ?_
  rintro e w' ⟨rfl, rfl⟩
  rw [HD.out]
  have K0 := Lib.hid ((Blk.new w 23 d.c).alloc (.cells d.c 23))
  have H0 := Lib.hid (((Below.refl w.heap.size w).alloc (Nat.le_refl _) (.cells d.c 23)).alloc (by simp) (.cells d.c 23))
  go_wp2_with fail
  go_loopw [3, 4] (fun s i wr => ∃ k : Nat, k ≤ 7 ∧ i = .int .i64 k ∧ s = .string (bys (txt d k)) ∧ Hid (Blk wr w.heap.size 23 d.c) ∧ Hid (Below w.heap.size w wr)) (fun _ i _ => 7 - (intOf i).toNat)
  case atStart => exact ⟨0, by omega, rfl, by rw [txt_zero]; rfl, K0, H0⟩
  case round =>
    clear K0 H0
    obtain ⟨k, hk, rfl, rfl, K0, H0⟩ := hrel
    by_cases hlt : k < 7
    · have hx := K0.out.cell k
      rw [cell_dim d k hlt] at hx
      have hix := fun w => index_base k hlt w
      have bd := ok_at HD.out k hlt
      have hsz := base_size k
      have hlen := txt_len d HD.out k hk
      have Hs := Lib.hid (txt_same d k)
      have Hf := Lib.hid (txt_first d k)
      have Hn := Lib.hid (txt_next d k)
      generalize hxk : d.at k = x at hx Hs Hf Hn bd
      have HXk := Lib.hid hxk
      clear hxk
      by_cases h0 : x = 0
      · have HS := Lib.hid (Hs.out h0)
        clear Hs Hf Hn
        subst h0
        go_wp2_with fail
        go_roundw
        case rel => exact ⟨k + 1, by omega, by go_num, by rw [HS.out], K0, H0⟩
        case measure => simp [intOf]; omega
      · have h0' : (x == 0) = false := by simpa using h0
        have hsb : (bys (txt d k)).size ≤ 200 := by simpa [bys, ByteArray.size] using hlen
        have HX := Lib.hid (cell_dim d k hlt)
        rw [HXk.out] at HX
        by_cases hT : txt d k = []
        · have HF := Lib.hid (Hf.out h0 hT hlt)
          clear Hs Hf Hn
          rw [hT]
          rw [show bys [] = (⟨#[]⟩ : ByteArray) from rfl]
          clear hsb hlen
          go_wp2_with fail
          refine (bases_any _).mono ?_
          rintro e w1 ⟨rfl, hb⟩
          have N0 := Lib.hid (keep hb K0.out)
          have NB := Lib.hid (H0.out.trans (hb.mono H0.out.size))
          have hx1 := N0.out.cell k
          rw [HX.out] at hx1
          clear K0 H0 hb hx
          by_cases h1 : x = 1
          · subst h1
            clear h0 h0'
            go_wp2_with fail
            go_roundw
            case rel => exact ⟨k + 1, by omega, by go_num, by rw [HF.out]; exact congrArg Value.string (ByteArray.ext (by simp [bys, partL])), N0, NB⟩
            case measure => simp [intOf]; omega
          · have h1' : (x != 1) = true := by simpa using h1
            have H1 := Lib.hid h1
            clear h1
            go_wp2_with fail
            refine (numeral_any x _ (by omega) (by omega)).mono ?_
            rintro e w2 ⟨rfl, hb⟩
            have M0 := Lib.hid (keep hb N0.out)
            have MB := Lib.hid (NB.out.trans (hb.mono NB.out.size))
            have hil := it_len (n := x) (by omega) (by omega)
            clear N0 NB hb hx1
            go_wp2_with fail
            go_roundw
            case rel => exact ⟨k + 1, by omega, by go_num, by rw [HF.out]; exact congrArg Value.string (ByteArray.ext (by simp [bys, partL, ByteArray.data_append, H1.out])), M0, MB⟩
            case measure => simp [intOf]; omega
        · have HF := Lib.hid (Hn.out h0 hT)
          have hne : (!(bys (txt d k)).toList.isEmpty) = true := by
            rw [ByteArray.toList_eq, bys_data]; simpa using hT
          clear Hs Hf Hn
          generalize hsbe : bys (txt d k) = sb at *
          have HSB := Lib.hid hsbe.symm
          clear hsbe
          go_wp2_with fail
          refine (bases_any _).mono ?_
          rintro e w1 ⟨rfl, hb⟩
          have N0 := Lib.hid (keep hb K0.out)
          have NB := Lib.hid (H0.out.trans (hb.mono H0.out.size))
          have hx1 := N0.out.cell k
          rw [HX.out] at hx1
          clear K0 H0 hb hx
          by_cases h1 : x = 1
          · subst h1
            clear h0 h0'
            go_wp2_with fail
            go_roundw
            case rel => exact ⟨k + 1, by omega, by go_num, by rw [HF.out]; exact congrArg Value.string (ByteArray.ext (by simp [HSB.out, bys, partL, ByteArray.data_append])), N0, NB⟩
            case measure => simp [intOf]; omega
          · have h1' : (x != 1) = true := by simpa using h1
            have H1 := Lib.hid h1
            clear h1
            go_wp2_with fail
            refine (numeral_any x _ (by omega) (by omega)).mono ?_
            rintro e w2 ⟨rfl, hb⟩
            have M0 := Lib.hid (keep hb N0.out)
            have MB := Lib.hid (NB.out.trans (hb.mono NB.out.size))
            have hil := it_len (n := x) (by omega) (by omega)
            clear N0 NB hb hx1
            go_wp2_with fail
            go_roundw
            case rel => exact ⟨k + 1, by omega, by go_num, by rw [HF.out]; exact congrArg Value.string (ByteArray.ext (by simp [HSB.out, bys, partL, ByteArray.data_append, H1.out])), M0, MB⟩
            case measure => simp [intOf]; omega
    · obtain rfl : k = 7 := by omega
      have HT := Lib.hid (textB_txt d)
      by_cases hT : txt d 7 = []
      · rw [if_pos hT] at HT
        rw [hT]
        rw [show bys [] = (⟨#[]⟩ : ByteArray) from rfl]
        go_wp2_with fail
        go_ret
        exact ⟨by rw [HT.out]; rfl, H0.out⟩
      · rw [if_neg hT] at HT
        have hne : (bys (txt d 7)).toList.isEmpty = false := by
          rw [ByteArray.toList_eq, bys_data]; simpa using hT
        generalize bys (txt d 7) = sb at *
        go_wp2_with fail
        go_ret
        exact ⟨by rw [HT.out]; rfl, H0.out⟩
theorem rtext_any (d : D7) (w : World) : Calls Tryd.prog 33 #[d.v] w fun e w' => e = .returned (.string (textAll d)) ∧ Below w.heap.size w w' := by
  unfold textAll
  cases hd : d.ok
  · exact rtext_bad d w hd
  · exact rtext_ok d w hd
end Go.Proofs.YtlfapncbkgpclaaDoor
