/- The parts of the spoken text of a term: the program. -/
import Derived.Test.YtpokelkneblafaaGreatDoorPB
namespace Go.Proofs.YtpokelkneblafaaGreatDoor
open Go.RowKit
theorem prtL_app : ∀ (x : List Trm) (b : Bool) (y : Trm), prtL b (x ++ [y]) = prtL b x ++ ((if (b && x.isEmpty) = true then wOf else wAnd) :: prtM y)
  | [], b, y => by
    rw [List.nil_append, prtL, prtL, prtL]
    simp
  | a :: r, b, y => by
    rw [List.cons_append, prtL, prtL, prtL_app r false y]
    simp
theorem prtL_snoc {ts : List Trm} {j : Nat} {y : Trm} (h : ts[j]? = some y) : prtL true (ts.take (j + 1)) = prtL true (ts.take j) ++ ((if j = 0 then wOf else wAnd) :: prtM y) := by
  have hl : j < ts.length := (List.getElem?_eq_some_iff.1 h).1
  rw [List.take_add_one, h, Option.toList, prtL_app]
  congr 2
  by_cases hj : j = 0
  · subst hj; simp
  · have : (ts.take j).isEmpty = false := by
      cases hq : ts.take j with
      | nil =>
        have h2 : (ts.take j).length = 0 := by rw [hq]; rfl
        rw [List.length_take] at h2
        omega
      | cons a r => rfl
    rw [this, if_neg (by simp), if_neg hj]
theorem prtL_split : ∀ (x y : List Trm) (b : Bool), ∃ z, prtL b (x ++ y) = prtL b x ++ z
  | [], y, b => ⟨prtL b y, by rw [List.nil_append, show prtL b [] = [] by rw [prtL]]; rfl⟩
  | a :: r, y, b => by
    obtain ⟨z, hz⟩ := prtL_split r y false
    exact ⟨z, by rw [List.cons_append, prtL, prtL, hz]; simp⟩
theorem prtL_take_sz (ts : List Trm) (j : Nat) : szP (prtL true (ts.take j)) ≤ szP (prtL true ts) := by
  obtain ⟨z, hz⟩ := prtL_split (ts.take j) (ts.drop j) true
  rw [List.take_append_drop] at hz
  rw [hz, szP_app]
  omega
theorem szP_cons (x : List UInt8) (l : List (List UInt8)) : szP (x :: l) = x.length + 1 + szP l := by simp [szP]
set_option maxRecDepth 100000 in
set_option maxHeartbeats 4000000 in
theorem parts_any (B0 B b gb : Nat) (w0 : World) (hB0 : B0 ≤ B) (hob : w0.heap.size ≤ B) : ∀ (m : Nat) (t : Trm) (l : List (List UInt8)) (p : Addr) (A : Option Addr) (cap : Nat) (w : World), cntM t ≤ m → Glb B0 w → TxtAt B b gb l w → Below w0.heap.size w0 w → PtM w0 p t A cap → szP l + szP (prtM t) ≤ 100000000000 →
    Calls Tryz.prog 20 #[.pointer (some p), sinkV gb b] w (TookP B b gb (l ++ prtM t) w) := by
  intro m
  induction m with
  | zero => intro t l p A cap w h; have := cnt_pos t; omega
  | succ m ih =>
    intro t l p A cap w hm hG hT ho hP hlen
    obtain ⟨k, a, v, f, ts⟩ := t
    by_cases h1 : k = 1
    · subst h1; exact parts_num B0 B b gb l a v f ts p A cap w0 w hG hB0 hob hT ho hP hlen
    by_cases h2 : k = 2
    · subst h2; exact parts_var B0 B b gb l a v f ts p A cap w0 w hG hB0 hob hT ho hP hlen
    by_cases h3 : k = 3
    · subst h3; exact parts_text B0 B b gb l a v f ts p A cap w0 w hG hB0 hob hT ho hP hlen
    have IH := Lib.hid ih
    clear ih
    have HE := Lib.hid (show prtM (.mk k a v f ts) = [wThe, a.data.toList] ++ ((if k = 5 then wOver :: spokenL v.data.toList else []) ++ ((if f.data.toList.isEmpty then [] else [wAs, f.data.toList]) ++ (prtL true ts ++ [wEnd]))) by rw [prtM, if_neg h1, if_neg h2, if_neg h3])
    have q1 : (k == 1) = false := beq_eq_false_iff_ne.2 h1
    have q2 : (k == 2) = false := beq_eq_false_iff_ne.2 h2
    have q3 : (k == 3) = false := beq_eq_false_iff_ne.2 h3
    have HO5 := Lib.hid (show (k == 5) = true → (if k = 5 then wOver :: spokenL v.data.toList else []) = wOver :: spokenL v.data.toList from fun h => if_pos (beq_iff_eq.1 h))
    have HO0 := Lib.hid (show (k == 5) = false → (if k = 5 then wOver :: spokenL v.data.toList else []) = [] from fun h => if_neg (beq_eq_false_iff_ne.1 h))
    have HF0 := Lib.hid (show f.toList.isEmpty = true → (if f.data.toList.isEmpty then [] else [wAs, f.data.toList]) = [] from fun h => by rw [ByteArray.toList_eq] at h; rw [h]; rfl)
    have HF1 := Lib.hid (show f.toList.isEmpty = false → (if f.data.toList.isEmpty then [] else [wAs, f.data.toList]) = [wAs, f.data.toList] from fun h => by rw [ByteArray.toList_eq] at h; rw [h]; rfl)
    generalize (if k = 5 then wOver :: spokenL v.data.toList else []) = O at *
    generalize (if f.data.toList.isEmpty then [] else [wAs, f.data.toList]) = F at *
    rw [HE.out] at hlen
    rw [HE.out]
    have HL := Lib.hid (show szP l + (4 + (a.size + 1)) + szP O + szP F + szP (prtL true ts) + 4 ≤ 100000000000 by
      rw [szP_app, szP_app, szP_app, szP_app, szP_one, szP_cons, szP_one] at hlen
      have e1 : wThe.length = 3 := rfl
      have e2 : wEnd.length = 3 := rfl
      have e3 : a.data.toList.length = a.size := by simp
      omega)
    have HZ := Lib.hid (show cntL ts ≤ m by rw [cntM] at hm; omega)
    have HV := Lib.hid (show v.size ≤ 9223372036854775807 from by obtain ⟨-, -, -, -, -, -, -, h, -⟩ := hP; exact h)
    have S0 := Lib.hid (PSt.start hG hB0 hob hT ho)
    have HP0 := Lib.hid hP
    have HP := Lib.hid (hP.keep S0.out.old)
    clear hP hG hT ho hlen hm h1 h2 h3
    obtain ⟨-, c0, -, -, -, -, -⟩ := HP.out
    dsimp only [Trm.kind, Trm.nam] at c0
    have k0 := S0.out.cell.cell 0
    go_enter Tryz.func20, Tryz.ntmps20
    go_wp2_with fail
    generalize w.alloc (.cells #[sinkV gb b] 58) = w1 at *
    refine (S0.out.take ⟨#[116, 104, 101]⟩ (by have := HL.out; show _ + 3 + 1 ≤ _; omega)).mono ?_
    rintro e w2 ⟨rfl, hS⟩
    have S1 := Lib.hid (show PSt B0 B b gb w.heap.size w0 w (l ++ [wThe]) w2 from hS)
    clear hS c0 k0
    obtain ⟨-, -, c1, -, -, -, -⟩ := HP0.out.keep S1.out.old
    dsimp only [Trm.nam] at c1
    have k0 := S1.out.cell.cell 0
    go_upto_region 12 with (fail)
    go_cut [] (fun wc => Hid (PSt B0 B b gb w.heap.size w0 w (l ++ [wThe, a.data.toList]) wc))
    case first =>
      go_region_with (go_at_call 21; refine (S1.out.drew.take a (by rw [szP_app, szP_one]; have := HL.out; show _ + (3 + 1) + _ + 1 ≤ _; omega)).mono ?_; rintro e w5 ⟨rfl, hS⟩; have S2 := Lib.hid hS; clear hS)
      all_goals
        go_wp2_with fail
        go_meet
        have h := S2.out
        rw [List.append_assoc] at h
        exact h
    case rest =>
      clear S0 S1 HP c1 k0
      have S2 := hcut
      clear hcut
      generalize wc = w3 at *
      obtain ⟨-, c0, -, c2, -, c4, -⟩ := HP0.out.keep S2.out.old
      dsimp only [Trm.kind, Trm.vr, Trm.form] at c0 c2 c4
      have k0 := S2.out.cell.cell 0
      go_upto_if 57 with (fail)
      go_cut [] (fun wc => Hid (PSt B0 B b gb w.heap.size w0 w (l ++ [wThe, a.data.toList] ++ O) wc))
      case first =>
        cases q5 : (k == 5)
        · have HEO := Lib.hid (HO0.out q5)
          go_wp2_with fail
          go_meet
          rw [HEO.out, List.append_nil]
          exact S2.out
        · have HEO := Lib.hid (HO5.out q5)
          have HLO := Lib.hid (show szP l + (4 + (a.size + 1)) + 5 ≤ 100000000000 by have h1 := HL.out; rw [HEO.out, szP_cons] at h1; have e1 : wOver.length = 4 := rfl; omega)
          go_wp2_with fail
          refine (S2.out.take ⟨#[111, 118, 101, 114]⟩ (by rw [szP_app, szP_cons, szP_one]; have := HLO.out; have e3 : a.data.toList.length = a.size := by simp
                                                          show _ + (3 + 1 + _) + 4 + 1 ≤ _; omega)).mono ?_
          rintro e w5 ⟨rfl, hS⟩
          have S3 := Lib.hid (show PSt B0 B b gb w.heap.size w0 w (l ++ [wThe, a.data.toList] ++ [wOver]) w5 from hS)
          clear hS c0 c2 c4 k0
          obtain ⟨-, -, -, c2, -, -, -⟩ := HP0.out.keep S3.out.old
          dsimp only [Trm.vr] at c2
          have k0 := S3.out.cell.cell 0
          go_wp2_with fail
          refine (S3.out.name v (by rw [szP_app, szP_app, szP_cons, szP_one, szP_one]; have := HLO.out; have e3 : a.data.toList.length = a.size := by simp
                                    show _ + (3 + 1 + _) + (4 + 1) ≤ _; omega) HV.out).mono ?_
          rintro e w6 ⟨rfl, hS⟩
          have S4 := Lib.hid hS
          clear hS c2 k0
          go_wp2_with fail
          go_meet
          have h := S4.out
          rw [HEO.out]
          rw [List.append_assoc] at h
          exact h
      case rest =>
        clear S2 c0 c2 c4 k0 HO5 HO0
        have S3 := hcut
        clear hcut
        generalize wc = w4 at *
        obtain ⟨-, -, -, -, -, c4, -⟩ := HP0.out.keep S3.out.old
        dsimp only [Trm.form] at c4
        have k0 := S3.out.cell.cell 0
        go_upto_if 70 with (fail)
        go_cut [] (fun wc => Hid (PSt B0 B b gb w.heap.size w0 w (l ++ [wThe, a.data.toList] ++ O ++ F) wc))
        case first =>
          cases qf : f.toList.isEmpty
          · have HEF := Lib.hid (HF1.out qf)
            have HLF := Lib.hid (show szP l + (4 + (a.size + 1)) + szP O + 3 + f.size + 1 ≤ 100000000000 by have h1 := HL.out; rw [HEF.out, szP_cons, szP_one] at h1; have e1 : wAs.length = 2 := rfl; have e2 : f.data.toList.length = f.size := by simp
                                                                                                            omega)
            go_wp2_with fail
            refine (S3.out.take ⟨#[97, 115]⟩ (by rw [szP_app, szP_app, szP_cons, szP_one]; have := HLF.out; have e3 : a.data.toList.length = a.size := by simp
                                                 show _ + (3 + 1 + _) + _ + 2 + 1 ≤ _; omega)).mono ?_
            rintro e w5 ⟨rfl, hS⟩
            have S4 := Lib.hid (show PSt B0 B b gb w.heap.size w0 w (l ++ [wThe, a.data.toList] ++ O ++ [wAs]) w5 from hS)
            clear hS c4 k0
            obtain ⟨-, -, -, -, -, c4, -⟩ := HP0.out.keep S4.out.old
            dsimp only [Trm.form] at c4
            have k0 := S4.out.cell.cell 0
            go_wp2_with fail
            have HB6 := Lib.hid (show szP (l ++ [wThe, a.data.toList] ++ O ++ [wAs]) + f.size + 1 ≤ 1000000000000 by
              rw [szP_app, szP_app, szP_app, szP_cons, szP_one, szP_one]
              have := HLF.out
              have e3 : a.data.toList.length = a.size := by simp
              show _ + (3 + 1 + _) + _ + (2 + 1) + _ + 1 ≤ _
              omega)
            go_region_with (go_at_call 21; refine (S4.out.drew.take f HB6.out).mono ?_; rintro e w6 ⟨rfl, hS⟩; have S5 := Lib.hid hS; clear hS)
            all_goals
              go_wp2_with fail
              go_meet
              have h := S5.out
              rw [HEF.out]
              rw [List.append_assoc] at h
              exact h
          · have HEF := Lib.hid (HF0.out qf)
            go_wp2_with fail
            go_meet
            rw [HEF.out, List.append_nil]
            exact S3.out
        case rest =>
          clear S3 c4 k0 HF0 HF1
          have S4 := hcut
          clear hcut
          generalize wc = w5 at *
          obtain ⟨-, -, -, -, c3, -, -, -, -, hl, hc, -⟩ := HP0.out.keep S4.out.old
          dsimp only [Trm.args] at c3 hl
          have HPL := Lib.hid (show szP (l ++ [wThe, a.data.toList] ++ O ++ F) + szP (prtL true ts) + 4 ≤ 100000000000 by
            rw [szP_app, szP_app, szP_app, szP_cons, szP_one]; have := HL.out; have e3 : a.data.toList.length = a.size := by simp
            have e1 : wThe.length = 3 := rfl
            omega)
          have HEQ := Lib.hid (show l ++ [wThe, a.data.toList] ++ O ++ F ++ (prtL true ts ++ [wEnd]) = l ++ ([wThe, a.data.toList] ++ (O ++ (F ++ (prtL true ts ++ [wEnd])))) by simp only [List.append_assoc])
          generalize l ++ [wThe, a.data.toList] ++ O ++ F = L at *
          go_wp2_with fail
          clear c3
          go_loopw [84] (fun i wr => ∃ j : Nat, j ≤ ts.length ∧ i = .int .i64 j ∧ Hid (PSt B0 B b gb w.heap.size w0 w (L ++ prtL true (ts.take j)) wr)) (fun i _ => ts.length - (intOf i).toNat)
          case atStart => exact ⟨0, by omega, rfl, (by rw [List.take_zero, show prtL true [] = [] by rw [prtL], List.append_nil]; exact S4.out)⟩
          case round =>
            clear S4
            obtain ⟨j, hj, rfl, S4⟩ := hrel
            have k0 := S4.out.cell.cell 0
            by_cases hlt : j < ts.length
            · obtain ⟨y, hy⟩ : ∃ y, ts[j]? = some y := ⟨_, List.getElem?_eq_getElem hlt⟩
              have HSN := Lib.hid (prtL_snoc hy)
              have HSZ := Lib.hid (prtL_take_sz ts (j + 1))
              have HS := Lib.hid (show cntM y ≤ m by have := cnt_arg hy; have := HZ.out; omega)
              have HY0 : ∃ ad A2 cap2, A = some ad ∧ PtM w0 (ad.add (j * 5)) y A2 cap2 := by
                obtain ⟨-, -, -, -, -, -, -, -, -, -, -, hk0⟩ := HP0.out
                dsimp only [Trm.args] at hk0
                obtain ⟨ad', A'', cap'', e1, hadl', hp'⟩ := hk0.at_ hy
                exact ⟨ad', A'', cap'', e1, hp'⟩
              obtain ⟨ad, A2, cap2, rfl, hy0⟩ := HY0
              have HY := Lib.hid hy0
              clear hy0 hy
              generalize hwd : (if j = 0 then wOf else wAnd) = wd at *
              have HLD := Lib.hid (show szP (L ++ prtL true (ts.take j)) + (wd.length + 1) + szP (prtM y) + 4 ≤ 100000000000 by
                have h1 := HSZ.out
                rw [HSN.out, szP_app, szP_cons] at h1
                have h2 := HPL.out
                rw [szP_app]
                omega)
              have HWD := Lib.hid hwd
              clear hwd
              go_upto_if 88 with (fail)
              go_cut [] (fun wc => Hid (PSt B0 B b gb w.heap.size w0 w (L ++ prtL true (ts.take j) ++ [wd]) wc))
              case first =>
                by_cases hj0 : j = 0
                · have HWE := Lib.hid (show wd = wOf by rw [← HWD.out, if_pos hj0])
                  have hq : ((j : Int) == 0) = true := by rw [beq_iff_eq]; omega
                  have HB7 := Lib.hid (show szP (L ++ prtL true (ts.take j)) + (⟨#[111, 102]⟩ : ByteArray).size + 1 ≤ 1000000000000 by have := HLD.out; show _ + 2 + 1 ≤ _; omega)
                  replace hj0 := Lib.hid hj0
                  go_wp2_with fail
                  refine (S4.out.take ⟨#[111, 102]⟩ HB7.out).mono ?_
                  rintro e w6 ⟨rfl, hS⟩
                  have S5 := Lib.hid (show PSt B0 B b gb w.heap.size w0 w (L ++ prtL true (ts.take j) ++ [wOf]) w6 from hS)
                  clear hS
                  go_wp2_with fail
                  go_meet
                  rw [HWE.out]
                  exact S5.out
                · have HWE := Lib.hid (show wd = wAnd by rw [← HWD.out, if_neg hj0])
                  have hq : ((j : Int) == 0) = false := by rw [beq_eq_false_iff_ne]; omega
                  have HB7 := Lib.hid (show szP (L ++ prtL true (ts.take j)) + (⟨#[97, 110, 100]⟩ : ByteArray).size + 1 ≤ 1000000000000 by have := HLD.out; show _ + 3 + 1 ≤ _; omega)
                  replace hj0 := Lib.hid hj0
                  go_wp2_with fail
                  refine (S4.out.take ⟨#[97, 110, 100]⟩ HB7.out).mono ?_
                  rintro e w6 ⟨rfl, hS⟩
                  have S5 := Lib.hid (show PSt B0 B b gb w.heap.size w0 w (L ++ prtL true (ts.take j) ++ [wAnd]) w6 from hS)
                  clear hS
                  go_wp2_with fail
                  go_meet
                  rw [HWE.out]
                  exact S5.out
              case rest =>
                clear S4 k0
                have S5 := hcut
                clear hcut
                generalize wc = w7 at *
                obtain ⟨-, -, -, -, c3, -, -, -, -, -, -, -⟩ := HP0.out.keep S5.out.old
                dsimp only [Trm.args] at c3
                have k0 := S5.out.cell.cell 0
                have HB8 := Lib.hid (show szP (L ++ prtL true (ts.take j) ++ [wd]) + szP (prtM y) ≤ 100000000000 by rw [szP_app, szP_one]; have := HLD.out; omega)
                have HD := Lib.hid S5.out.drew
                go_wp2_with fail
                go_region_with (go_at_call 20; refine (IH.out y _ (ad.add (j * 5)) A2 cap2 w7.drew HS.out HD.out.glb HD.out.txt HD.out.old HY.out HB8.out).mono ?_; rintro e w8 hT8; obtain ⟨rfl, hS⟩ := HD.out.next hT8; have S6 := Lib.hid hS; clear hS hT8)
                all_goals
                  clear c3 k0
                  have S7 := Lib.hid (show PSt B0 B b gb w.heap.size w0 w (L ++ prtL true (ts.take (j + 1))) w8 by
                    have h := S6.out
                    rw [HSN.out]
                    rw [List.append_assoc, List.append_assoc] at h
                    exact h)
                  go_wp2_with fail
                  go_roundw
                  case rel => exact ⟨j + 1, by omega, by go_num, S7⟩
                  case measure => simp [intOf]; omega
            · obtain rfl : j = ts.length := by omega
              rw [List.take_length] at S4
              go_wp2_with fail
              refine (S4.out.take ⟨#[101, 110, 100]⟩ (by rw [szP_app]; have := HPL.out; show _ + 3 + 1 ≤ _; omega)).mono ?_
              rintro e w6 ⟨rfl, hS⟩
              have S5 := Lib.hid (show PSt B0 B b gb w.heap.size w0 w (L ++ prtL true ts ++ [wEnd]) w6 from hS)
              clear hS
              rw [List.append_assoc, HEQ.out] at S5
              go_wp2_with fail
              exact bodyPost_ret (v := .tuple #[]) (by simp [results, Tryz.results20, go_sem]) rfl S5.out.took
end Go.Proofs.YtpokelkneblafaaGreatDoor
