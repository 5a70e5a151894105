/- Parse of the reference: the rules of a text, or a line and an error. -/
import Derived.Test.YtgkfmeagpmjcoaaDoorW7
import Derived.Deep.Onto
namespace Go.Proofs.YtgkfmeagpmjcoaaDoor
open Go.RowKit
theorem drop_split {α : Type} {l : List α} {k : Nat} {x : α} (h : l[k]? = some x) : l.drop k = x :: l.drop (k + 1) := by
  obtain ⟨hk, rfl⟩ := List.getElem?_eq_some_iff.1 h
  exact List.drop_eq_getElem_cons hk
theorem okR_yes {l : List UInt8} (h : (ownB (readR (splitL 32 l)) && (lineN (readR (splitL 32 l)) == l)) = true) : okP l = some (readR (splitL 32 l)) := by
  rw [← ok_same]; unfold okR; rw [if_pos h]
theorem okR_no {l : List UInt8} (h : (ownB (readR (splitL 32 l)) && (lineN (readR (splitL 32 l)) == l)) = false) : okP l = none := by
  rw [← ok_same]; unfold okR; rw [if_neg (by rw [h]; simp)]
theorem rd_last {l : List UInt8} {ls : List (List UInt8)} {k : Nat} {acc : List Rul} (h : ls.drop k = [l]) : rd (ls.drop k) k acc = if l = [] then .good acc else .bad (k + 1) := by rw [h, rd]
theorem rd_next {l : List UInt8} {ls : List (List UInt8)} {k : Nat} {acc : List Rul} (h : ls[k]? = some l) (hk : k + 1 < ls.length) : rd (ls.drop k) k acc = match okP l with
    | some r => rd (ls.drop (k + 1)) (k + 1) (acc ++ [r])
    | none => .bad (k + 1) := by
  rw [drop_split h]
  exact rd_cons l (fun e => by have := congrArg List.length e; simp at this; omega) k acc
set_option maxRecDepth 100000 in
set_option maxHeartbeats 2000000 in
theorem rparse_any (s : ByteArray) (w : World) (hs : s.size ≤ 900000) : Calls Tryd.prog 23 #[.string s] w (ParseP (parseAll s.data.toList) w) := by
  obtain ⟨i0, hi, hz0, hz1, hz2⟩ := info_parts info_rul
  have hsl := split_len 10 s.data.toList
  have hsz : s.data.toList.length = s.size := by simp
  have HL := Lib.hid (show (splitL 10 s.data.toList).length ≤ 1000000 by omega)
  have HF := Lib.hid (show ∀ p ∈ splitL 10 s.data.toList, p.length ≤ 900000 from fun p hp => by have := hsl.2 p hp; omega)
  have HNE := Lib.hid (splitL_ne 10 s.data.toList)
  clear hsl hsz
  go_enter Tryd.func23, Tryd.ntmps23
  go_wp2_with fail
  refine (rsplit_any s 10 _ (by omega)).mono ?_
  rintro e w1 ⟨v, rfl, hown, hb⟩
  obtain ⟨gw, cap, rfl, hgw, hgl, hcl, hcap, hrow⟩ := strs_form hown HNE.out
  generalize hws : splitL 10 s.data.toList = ws at *
  have HWS := Lib.hid hws
  clear hws hown
  have H1 := Lib.hid hb
  have HROW := Lib.hid hrow
  clear hb hrow
  have hn0 : 0 < ws.length := List.length_pos_iff.2 HNE.out
  have hn := HL.out
  clear HL HNE
  go_wp2_with fail
  go_loopw [6, 7] (fun v i wr => ∃ (k : Nat) (acc : List Rul), k < ws.length ∧ i = .int .i64 k ∧ Hid (acc.length = k) ∧ Hid (rd (ws.drop k) k acc = rd ws 0 []) ∧ Hid (OwnRuls wr w1.heap.size v acc) ∧ Hid (Below w1.heap.size w1 wr)) (fun _ i _ => ws.length - (intOf i).toNat)
  case atStart => exact ⟨0, [], hn0, rfl, rfl, rfl, ⟨World.ownsRow_nil _ _ _ _, by simp⟩, Below.refl _ _⟩
  case round =>
    obtain ⟨k, acc, hk, rfl, HAL, HRD, HO, HB⟩ := hrel
    obtain ⟨l, hl⟩ : ∃ l, ws[k]? = some l := ⟨_, List.getElem?_eq_getElem hk⟩
    have HLL := Lib.hid hl
    have HROW2 := Lib.hid (row_below HROW.out hgl HB.out)
    have cc := HROW2.out k l hl
    rw [show (⟨gw, 0, none⟩ : Addr).add k = ⟨gw, k, none⟩ by unfold Addr.add; simp; omega] at cc
    have hll : (bys l).size ≤ 900000 := by rw [bys_size]; exact HF.out l (List.mem_of_getElem? hl)
    clear hl
    by_cases hlast : k + 1 = ws.length
    · have hq : ((k : Int) == (ws.length : Int) - 1) = true := by rw [beq_iff_eq]; omega
      have HDR := Lib.hid (show ws.drop k = [l] by rw [drop_split HLL.out, List.drop_of_length_le (by omega)])
      clear hlast
      by_cases hem : l = []
      · subst hem
        have HGOOD := Lib.hid (show rd (splitL 10 s.data.toList) 0 [] = .good acc by rw [HWS.out, ← HRD.out, rd_last HDR.out, if_pos rfl])
        rw [show bys [] = ⟨#[]⟩ from rfl] at cc hll
        have hal : acc.length ≤ 1000000 := by have := HAL.out; omega
        have H0 := Lib.hid (H1.out.trans (HB.out.mono H1.out.size))
        have HO := Lib.hid (show OwnRuls wr w.heap.size u6 acc from ⟨HO.out.1.mono H1.out.size, HO.out.2⟩)
        obtain ⟨A, cap3, rfl, hcl3, hcap3, hR⟩ := HO.out.form
        have HR := Lib.hid hR
        clear hR
        clear HROW2 HB HRD HAL HDR HLL
        go_wp2_with fail
        go_loopw [10] (fun i wy => ∃ k : Nat, k ≤ acc.length ∧ i = .int .i64 k ∧ Hid (scan acc k = none) ∧ Hid (OwnRuls wy w.heap.size (.slice A acc.length cap3) acc) ∧ Hid (RulsAt wy A acc) ∧ Hid (Below w.heap.size w wy)) (fun i _ => acc.length - (intOf i).toNat)
        case atStart => exact ⟨0, by omega, rfl, rfl, HO, HR, H0⟩
        case round =>
          clear HO HR H0
          obtain ⟨k, hk, rfl, HS, HO, HR, H0⟩ := hrel
          by_cases hlt : k < acc.length
          · obtain ⟨x, hx⟩ : ∃ x, acc[k]? = some x := ⟨_, List.getElem?_eq_getElem hlt⟩
            have HX := Lib.hid (scan_succ HS.out hx)
            have HZ := Lib.hid (fun (e : Nat × Int) (h : scan acc (k + 1) = some e) => scan_some h (show k + 1 ≤ acc.length by omega))
            have HXK := Lib.hid hx
            clear hx
            go_wp2_with fail
            go_loopw [11] (fun i wz => ∃ j : Nat, j ≤ k ∧ i = .int .i64 j ∧ Hid (∀ (m : Nat) y, acc[m]? = some y → m < j → clashB x y = false) ∧ Hid (OwnRuls wz w.heap.size (.slice A acc.length cap3) acc) ∧ Hid (RulsAt wz A acc) ∧ Hid (Below w.heap.size w wz)) (fun i _ => k - (intOf i).toNat)
            case atStart => exact ⟨0, by omega, rfl, (fun _ _ _ h => by omega), HO, HR, H0⟩
            case round =>
              clear HO HR H0
              obtain ⟨j, hj, rfl, HJ, HO, HR, H0⟩ := hrel
              by_cases hlj : j < k
              · obtain ⟨y, hy⟩ : ∃ y, acc[j]? = some y := ⟨_, List.getElem?_eq_getElem (by omega)⟩
                obtain ⟨_, ad, rfl, _, c0, c1, c2, c3, c4, c5⟩ := HR.out.at_ HXK.out
                obtain ⟨_, ad2, he2, _, d0, d1, d2, d3, d4, d5⟩ := HR.out.at_ hy
                obtain rfl := Option.some.inj he2
                have HY := Lib.hid hy
                clear hy he2
                generalize hq : clashB x y = cl
                have HQ := Lib.hid hq
                clear hq
                go_upto_region 17 with (fail)
                go_cut [74] (fun b wc => b = .bool cl ∧ Hid (OwnRuls wc w.heap.size (.slice (some ad) acc.length cap3) acc) ∧ Hid (RulsAt wc (some ad) acc) ∧ Hid (Below w.heap.size w wc))
                case first =>
                  go_region_with (go_at_call 27; refine (rclash_any x y _).mono ?_; rintro e w2 ⟨rfl, hb5⟩; have MO := Lib.hid (HO.out.drew.keep hb5); have MR := Lib.hid (HR.out.drew.keep hb5); have MB := Lib.hid ((below_drew H0.out).trans (hb5.mono H0.out.size)); clear hb5; rw [HQ.out])
                  all_goals (go_wp2_with fail; go_meet; exact ⟨rfl, MO, MR, MB⟩)
                case rest =>
                  clear HO HR H0 c0 c1 c2 c3 c4 c5 d0 d1 d2 d3 d4 d5
                  obtain ⟨rfl, HO, HR, H0⟩ := hcut
                  cases cl
                  · go_wp2_with fail
                    go_roundw
                    case rel => exact ⟨j + 1, by omega, by go_num, (fun m z hm h => by
                      rcases Nat.lt_or_ge m j with h' | h'
                      · exact HJ.out m z hm h'
                      · obtain rfl : m = j := by omega
                        rw [HY.out] at hm
                        obtain rfl := Option.some.inj hm
                        exact HQ.out), HO, HR, H0⟩
                    case measure => simp [intOf]; omega
                  · have HFF := Lib.hid (fresh_false (os := acc.take k) (r := x) (j := j) (x := y) (by rw [List.getElem?_take, if_pos hlj]; exact HY.out) HQ.out)
                    rw [HFF.out] at HX
                    have HE := Lib.hid (HZ.out _ HX.out)
                    go_wp2_with fail
                    refine bodyPost_ret (v := .tuple #[.slice none 0 0, .int .i64 ((k + 1 : Nat) : Int), .int .i64 9]) (by simp [results, Tryd.results23, go_sem]) rfl ?_
                    exact parseP_err HGOOD.out HE.out H0.out
              · have HFT := Lib.hid (fresh_true (os := acc.take k) (r := x) fun m y hm => by
                  rw [List.getElem?_take] at hm
                  split at hm
                  · exact HJ.out m y hm (by omega)
                  · cases hm)
                rw [HFT.out] at HX
                by_cases h64 : k = 64
                · obtain rfl := h64
                  have HE := Lib.hid (HZ.out _ HX.out)
                  go_wp2_with fail
                  refine bodyPost_ret (v := .tuple #[.slice none 0 0, .int .i64 ((64 + 1 : Nat) : Int), .int .i64 6]) (by simp [results, Tryd.results23, go_sem]) rfl ?_
                  exact parseP_err HGOOD.out HE.out H0.out
                · have hq2 : ((k : Int) == 64) = false := by rw [beq_eq_false_iff_ne]; omega
                  have HX := Lib.hid (show scan acc (k + 1) = none by rw [HX.out, if_pos rfl, if_neg h64])
                  clear h64
                  go_wp2_with fail
                  go_roundw
                  case rel => exact ⟨k + 1, by omega, by go_num, HX, HO, HR, H0⟩
                  case measure => simp [intOf]; omega
          · obtain rfl : k = acc.length := by omega
            go_wp2_with fail
            refine bodyPost_ret (v := .tuple #[.slice A acc.length cap3, .int .i64 0, .int .i64 0]) (by simp [results, Tryd.results23, go_sem]) rfl ?_
            exact parseP_ok HGOOD.out HS.out HO.out H0.out
      · have hq2 : (bys l).toList.isEmpty = false := by
          rw [Bool.eq_false_iff, ne_eq, List.isEmpty_iff, ByteArray.toList_eq, bys_data]; exact hem
        have HBAD := Lib.hid (show rd (splitL 10 s.data.toList) 0 [] = .bad (k + 1) by rw [HWS.out, ← HRD.out, rd_last HDR.out, if_neg hem])
        clear hem
        go_wp2_with fail
        refine (readLine_any (bys l) _ (by omega)).mono ?_
        rintro e w2 ⟨rfl, hb⟩
        have H2 := Lib.hid ((H1.out.trans (HB.out.mono H1.out.size)).trans (hb.mono (Nat.le_trans H1.out.size HB.out.size)))
        clear hb
        generalize readR (splitL 32 (bys l).data.toList) = x
        generalize (ownB x && (lineN x == (bys l).data.toList)) = ok
        cases ok
        all_goals
          go_wp2_with fail
          refine bodyPost_ret (v := .tuple #[.slice none 0 0, .int .i64 ((k + 1 : Nat) : Int), .int .i64 3]) (by simp [results, Tryd.results23, go_sem]) rfl ?_
          exact parseP_bad HBAD.out (H2.out.alloc H2.out.size _)
    · have hq : ((k : Int) == (ws.length : Int) - 1) = false := by rw [beq_eq_false_iff_ne]; omega
      have hk1 : k + 1 < ws.length := by omega
      have HNX := Lib.hid (rd_next (acc := acc) HLL.out hk1)
      clear hlast
      go_wp2_with fail
      refine (readLine_any (bys l) _ (by omega)).mono ?_
      rintro e w2 ⟨rfl, hb⟩
      have HO := Lib.hid (HO.out.keep hb)
      have H2 := Lib.hid (HB.out.trans (hb.mono HB.out.size))
      clear hb cc HB HROW2
      rw [bys_data]
      have HY := Lib.hid (@okR_yes l)
      have HN := Lib.hid (@okR_no l)
      generalize readR (splitL 32 l) = x at *
      generalize (ownB x && (lineN x == l)) = ok at *
      cases ok
      · have HBAD := Lib.hid (show rd (splitL 10 s.data.toList) 0 [] = .bad (k + 1) by rw [HWS.out, ← HRD.out, HNX.out, HN.out rfl])
        go_wp2_with fail
        refine bodyPost_ret (v := .tuple #[.slice none 0 0, .int .i64 ((k + 1 : Nat) : Int), .int .i64 3]) (by simp [results, Tryd.results23, go_sem]) rfl ?_
        exact parseP_bad HBAD.out ((H1.out.trans (H2.out.mono H1.out.size)).alloc (Nat.le_trans H1.out.size H2.out.size) _)
      · have HOK := Lib.hid (HY.out rfl)
        have HRD2 := Lib.hid (show rd (ws.drop (k + 1)) (k + 1) (acc ++ [x]) = rd ws 0 [] by rw [← HRD.out, HNX.out, HOK.out])
        have HFIT := Lib.hid (own_fits (okP_inv HOK.out).1)
        have hown := ((HO.out.1).alloc (.cells x.c 39)).alloc (.cells x.c 39)
        rw [HAL.out] at hown
        have HBL := Lib.hid (HO.out.1.lt)
        have HFA := Lib.hid HO.out.2
        clear HRD HO HY HN HNX
        have HSZ := Lib.hid H2.out.size
        go_wp2_with (at_builtin; refine wpList_append_own _ rfl (.tmp 51) (.tmp 53) 22 rfl w1.heap.size 39 i0 zeroR.v 6 64 Tryd.underlying22 hi hz0 hz1 hz2 rfl (by decide) _ _ _ rfl hown ⟨w2.heap.size + 1, 0, none⟩ 1 1 x.c.toList rfl rfl ?c1a ?c2a ?c3a ?c4a ?c5a ?_)
        case c2a => exact ⟨rfl, rfl, rfl, rfl, rfl, rfl⟩
        case c3a => unfold maxLen; omega
        case c4a => omega
        case c5a => have := HSZ.out; simp; omega
        · intro v' w3 hown' hgrow _
          have NB := Lib.hid (((H2.out.alloc H2.out.size (.cells x.c 39)).alloc (by have := HSZ.out; simp; omega) (.cells x.c 39)).grown hgrow (by have := HSZ.out; simp; omega) (fun k hk => (HBL.out k hk).1))
          rw [← cellsR_snoc] at hown'
          have NO := Lib.hid (show OwnRuls w3 w1.heap.size v' (acc ++ [x]) from ⟨by rw [List.length_append, HAL.out]; exact hown', fun y hy => by
            rcases List.mem_append.1 hy with h | h
            · exact HFA.out y h
            · rw [List.mem_singleton.1 h]; exact HFIT.out⟩)
          have NAL := Lib.hid (show (acc ++ [x]).length = k + 1 by rw [List.length_append, HAL.out]; rfl)
          clear hown' hgrow hown H2
          go_wp2_with fail
          go_roundw
          case rel => exact ⟨k + 1, acc ++ [x], hk1, by go_num, NAL, HRD2, NO, NB⟩
          case measure => simp [intOf]; omega
end Go.Proofs.YtgkfmeagpmjcoaaDoor
