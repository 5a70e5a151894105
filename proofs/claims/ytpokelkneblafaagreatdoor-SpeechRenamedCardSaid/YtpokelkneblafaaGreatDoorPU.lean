/- The program's parser: term. -/
import Derived.Test.YtpokelkneblafaaGreatDoorPT
namespace Go.Proofs.YtpokelkneblafaaGreatDoor
open Go.RowKit
theorem dig_get {x : List UInt8} (hp : 0 < (bys x).size) : digW x = dig46 ((bys x)[0]'hp) := by
  cases x with
  | nil => simp [bys, ByteArray.size] at hp
  | cons c r => rfl
theorem dig_true {x : List UInt8} (h : digW x = true) : ∃ hp : 0 < (bys x).size, 48 ≤ ((bys x)[0]'hp).toNat ∧ ((bys x)[0]'hp).toNat ≤ 57 := by
  have hp : 0 < (bys x).size := by
    cases x with
    | nil => cases h
    | cons c r => rw [bys_len]; simp
  rw [dig_get hp] at h
  unfold dig46 at h
  rw [Bool.and_eq_true, decide_eq_true_eq, decide_eq_true_eq] at h
  exact ⟨hp, h⟩
theorem dig_false {x : List UInt8} (h : digW x = false) : x = [] ∨ ∃ hp : 0 < (bys x).size, ((bys x)[0]'hp).toNat < 48 ∨ 57 < ((bys x)[0]'hp).toNat := by
  cases x with
  | nil => exact .inl rfl
  | cons c r =>
    have hp : 0 < (bys (c :: r)).size := by rw [bys_len]; simp
    rw [dig_get hp] at h
    unfold dig46 at h
    rw [Bool.and_eq_false_iff, decide_eq_false_iff_not, decide_eq_false_iff_not] at h
    exact .inr ⟨hp, by omega⟩
set_option maxRecDepth 100000 in
set_option maxHeartbeats 8000000 in
theorem term_step (B0 gp f : Nat) (IH : 1 ≤ f → ApplyOk B0 gp f) : TermOk B0 gp (f + 1) := by
  intro s w hG hB0 hK hs hb hf
  have hgood := hs.good hb
  obtain ⟨rest, fin, bad, cnt⟩ := s
  dsimp only at hb hgood
  subst hb
  have HI := Lib.hid IH
  have HG := Lib.hid hG
  have HB0 := Lib.hid hB0
  have HGP := Lib.hid hK.lt
  have K1 := Lib.hid (keep (bel_alloc w (.cells zeroC 25)) hK)
  have K2 := Lib.hid (Blk.new w 25 zeroC)
  have HGR := Lib.hid ((Gr.refl gp w).below (bel_alloc w (.cells zeroC 25)))
  have HS := Lib.hid hs
  have HF := Lib.hid hf
  have HCN := Lib.hid hgood
  have HWP := Lib.hid (fun (s : PS) (w : World) hK h => word_any gp s w hK h)
  have HIP := Lib.hid (fun (a : List UInt8) (s : PS) (w : World) hG hK h => ident_ptr B0 gp a s w hG HB0.out hK h)
  have hcI : (cnt : Int) ≤ 1000 := by have : cnt ≤ 1000 := hgood; omega
  clear IH hG hB0 hK hs hf hgood
  go_enter Tryz.func16, Tryz.ntmps16
  have c3 := K1.out.cell 3
  have f3 := K1.out.frozen 3
  go_upto_region 2 with (fail)
  have K1s : Hid (Blk ((w.alloc (.cells zeroC 25)).setCell ⟨gp, 3, none⟩ (.int .i64 ((cnt : Int) + 1))) gp 42 (psC ⟨rest, fin, false, cnt + 1⟩)) := K1.out.set_ 3 (.int .i64 ((cnt : Int) + 1))
  have K2s := Lib.hid (K2.out.far (p := ⟨gp, 3, none⟩) (by have := HGP.out; show w.heap.size ≠ gp; omega) (.int .i64 ((cnt : Int) + 1)))
  have HGs := Lib.hid (HGR.out.set (p := ⟨gp, 3, none⟩) (.inr rfl) (.int .i64 ((cnt : Int) + 1)))
  clear c3 f3 K1 K2 HGR
  have K1 := K1s
  have K2 := K2s
  have HGR := HGs
  clear K1s K2s HGs
  generalize (w.alloc (.cells zeroC 25)).setCell ⟨gp, 3, none⟩ (.int .i64 ((cnt : Int) + 1)) = w1 at *
  by_cases hbig : 1000 < cnt + 1
  · have HTP := Lib.hid (show termP (f + 1) ⟨rest, fin, false, cnt⟩ = (zeroM, ⟨rest, fin, true, cnt + 1⟩) by rw [termP, if_pos (.inl hbig)])
    have c3 : w1.cell? ⟨gp, 3, none⟩ = some (.int .i64 ((cnt : Int) + 1)) := K1.out.cell 3
    have f2 := K1.out.frozen 2
    have c2 := K1.out.cell 2
    have hb1 : (1000 : Int) < (cnt : Int) + 1 := by omega
    clear hbig
    go_upto_region 4 with (fail)
    have K1s : Hid (Blk (w1.setCell ⟨gp, 2, none⟩ (.bool true)) gp 42 (psC ⟨rest, fin, true, cnt + 1⟩)) := K1.out.set_ 2 (.bool true)
    have K2s := Lib.hid (K2.out.far (p := ⟨gp, 2, none⟩) (by have := HGP.out; show w.heap.size ≠ gp; omega) (.bool true))
    have HGs := Lib.hid (HGR.out.set (p := ⟨gp, 2, none⟩) (.inr rfl) (.bool true))
    clear c3 f2 c2 hb1 K1 K2 HGR
    have K1 := K1s
    have K2 := K2s
    have HGR := HGs
    clear K1s K2s HGs
    generalize w1.setCell ⟨gp, 2, none⟩ (.bool true) = w2 at *
    have c2 := K1.out.cell 2
    have c0 := fun i => K2.out.cell i
    have f0 := fun i => K2.out.frozen i
    go_wp2_with fail
    have hn : gp ≠ w.heap.size := by have := HGP.out; omega
    have hwf := (((((K2.out.set_ 0 (.int .i64 0)).set_ 1 (.string ⟨#[]⟩)).set_ 2 (.string ⟨#[]⟩)).set_ 3 (.slice none 0 0)).set_ 4 (.string ⟨#[]⟩))
    have hgf := (((((HGR.out.set (p := ⟨w.heap.size, 0, none⟩) (.inl (Nat.le_refl _)) (.int .i64 0)).set (p := ⟨w.heap.size, 1, none⟩) (.inl (Nat.le_refl _)) (.string ⟨#[]⟩)).set (p := ⟨w.heap.size, 2, none⟩) (.inl (Nat.le_refl _)) (.string ⟨#[]⟩)).set (p := ⟨w.heap.size, 3, none⟩) (.inl (Nat.le_refl _)) (.slice none 0 0)).set (p := ⟨w.heap.size, 4, none⟩) (.inl (Nat.le_refl _)) (.string ⟨#[]⟩))
    have hkf := (((((K1.out.far (p := ⟨w.heap.size, 0, none⟩) hn (.int .i64 0)).far (p := ⟨w.heap.size, 1, none⟩) hn (.string ⟨#[]⟩)).far (p := ⟨w.heap.size, 2, none⟩) hn (.string ⟨#[]⟩)).far (p := ⟨w.heap.size, 3, none⟩) hn (.slice none 0 0)).far (p := ⟨w.heap.size, 4, none⟩) hn (.string ⟨#[]⟩))
    clear c0 f0 hn
    generalize (((((w2.setCell ⟨w.heap.size, 0, none⟩ (.int .i64 0)).setCell ⟨w.heap.size, 1, none⟩ (.string ⟨#[]⟩)).setCell ⟨w.heap.size, 2, none⟩ (.string ⟨#[]⟩)).setCell ⟨w.heap.size, 3, none⟩ (.slice none 0 0)).setCell ⟨w.heap.size, 4, none⟩ (.string ⟨#[]⟩)) = wf at *
    have dC := fun i => hwf.cell i
    refine bodyPost_ret (v := .agg #[.int .i64 0, .string ⟨#[]⟩, .string ⟨#[]⟩, .slice none 0 0, .string ⟨#[]⟩]) (by simp [results, Tryz.results16, go_sem, dC]) rfl ⟨_, rfl, ?_, ?_, hgf⟩
    · rw [HTP.out]
      exact TmAt.zero _ _ _ _ (by decide)
    · rw [HTP.out]
      exact hkf
  · have hs1 : Ok ⟨rest, fin, false, cnt + 1⟩ := ⟨HS.out.len, by show cnt + 1 ≤ 1001; omega, fun _ => by show cnt + 1 ≤ 1000; omega⟩
    have hw1 := st_word ⟨rest, fin, false, cnt + 1⟩
    have hlx := Lib.hid (word_len hs1.len)
    have HSW := Lib.hid (hs1.st hw1)
    have HCW := Lib.hid hw1.cnt
    have HTP := Lib.hid (show termP (f + 1) ⟨rest, fin, false, cnt⟩ = if (wordP ⟨rest, fin, false, cnt + 1⟩).1 = wThe then applyP f (wordP ⟨rest, fin, false, cnt + 1⟩).2
      else if (wordP ⟨rest, fin, false, cnt + 1⟩).1 = wText then
        (.mk 3 (bys (charsP (wordP (wordP ⟨rest, fin, false, cnt + 1⟩).2).1 (wordP (wordP ⟨rest, fin, false, cnt + 1⟩).2).2).1) ⟨#[]⟩ ⟨#[]⟩ [], (charsP (wordP (wordP ⟨rest, fin, false, cnt + 1⟩).2).1 (wordP (wordP ⟨rest, fin, false, cnt + 1⟩).2).2).2)
      else if digW (wordP ⟨rest, fin, false, cnt + 1⟩).1 = true then (.mk 1 (bys (wordP ⟨rest, fin, false, cnt + 1⟩).1) ⟨#[]⟩ ⟨#[]⟩ [], (wordP ⟨rest, fin, false, cnt + 1⟩).2)
      else (.mk 2 (bys (identP (wordP ⟨rest, fin, false, cnt + 1⟩).1 (wordP ⟨rest, fin, false, cnt + 1⟩).2).1) ⟨#[]⟩ ⟨#[]⟩ [], (identP (wordP ⟨rest, fin, false, cnt + 1⟩).1 (wordP ⟨rest, fin, false, cnt + 1⟩).2).2) by
        rw [termP, if_neg (by show ¬ (1000 < cnt + 1 ∨ false = true); simp; omega)])
    have c3 : w1.cell? ⟨gp, 3, none⟩ = some (.int .i64 ((cnt : Int) + 1)) := K1.out.cell 3
    have c2 := K1.out.cell 2
    have hb1 : ¬ (1000 : Int) < (cnt : Int) + 1 := by omega
    clear hw1
    go_wp2_with fail
    refine (HWP.out _ _ K1.out hs1.len).mono ?_
    rintro e w2 ⟨rfl, hK, hg⟩
    replace K1 := Lib.hid hK
    replace K2 := Lib.hid (hg.blk K2.out (by have := HGP.out; omega))
    replace HGR := Lib.hid (HGR.out.trans hg)
    clear hK hg
    clear c3 c2 hb1 hs1
    have hHI : Hid (1 ≤ f) := Lib.hid (by have := HF.out; omega)
    have HFA : Hid (3 * (1001 - (wordP ⟨rest, fin, false, cnt + 1⟩).2.cnt) + 3 ≤ f) := Lib.hid (by have h1 := HF.out; have h2 := HCW.out; rw [h2]; omega)
    generalize wordP ⟨rest, fin, false, cnt + 1⟩ = x at *
    obtain ⟨x, st⟩ := x
    dsimp only at K1 HTP HSW HFA hlx ⊢
    by_cases h1 : x = wThe
    · have q1 : ((bys x).toList == [116, 104, 101]) = true := beq_bys_t h1
      replace HTP := Lib.hid (HTP.out.trans (by rw [if_pos h1]))
      have HC := Lib.hid (HI.out hHI.out st w2 (HG.out.keep (B := B0) (Nat.le_refl _) (HGR.out.down (by have := HB0.out; have := HGP.out; omega) HB0.out)) HB0.out K1.out HSW.out HFA.out)
      clear h1
      go_wp2_with fail
      refine HC.out.mono ?_
      rintro e w3 ⟨c, rfl, hT, hK, hg⟩
      have HT := Lib.hid (hT.any (ok' := fun b => w.heap.size < b) (fun b _ h => by have := K2.out.lt; omega))
      replace K1 := Lib.hid hK
      replace K2 := Lib.hid (hg.blk K2.out (by have := HGP.out; omega))
      replace HGR := Lib.hid (HGR.out.trans hg)
      clear hK hg
      clear hT HC q1
      generalize applyP f st = r at *
      obtain ⟨k8, a8, v8, A8, n8, p8, f8, rfl⟩ := HT.out.ext
      have c0 := fun i => K2.out.cell i
      have f0 := fun i => K2.out.frozen i
      go_wp2_with fail
      have hn : gp ≠ w.heap.size := by have := HGP.out; omega
      have hwf := (((((K2.out.set_ 0 (.int .i64 k8)).set_ 1 (.string a8)).set_ 2 (.string v8)).set_ 3 (.slice A8 n8 p8)).set_ 4 (.string f8))
      have hgf := (((((HGR.out.set (p := ⟨w.heap.size, 0, none⟩) (.inl (Nat.le_refl _)) (.int .i64 k8)).set (p := ⟨w.heap.size, 1, none⟩) (.inl (Nat.le_refl _)) (.string a8)).set (p := ⟨w.heap.size, 2, none⟩) (.inl (Nat.le_refl _)) (.string v8)).set (p := ⟨w.heap.size, 3, none⟩) (.inl (Nat.le_refl _)) (.slice A8 n8 p8)).set (p := ⟨w.heap.size, 4, none⟩) (.inl (Nat.le_refl _)) (.string f8))
      have hkf := (((((K1.out.far (p := ⟨w.heap.size, 0, none⟩) hn (.int .i64 k8)).far (p := ⟨w.heap.size, 1, none⟩) hn (.string a8)).far (p := ⟨w.heap.size, 2, none⟩) hn (.string v8)).far (p := ⟨w.heap.size, 3, none⟩) hn (.slice A8 n8 p8)).far (p := ⟨w.heap.size, 4, none⟩) hn (.string f8))
      clear c0 f0 hn
      have step : ∀ (wx : World) (i : Nat) (u : Value), TmAt (fun b => w.heap.size < b) wx r.1 #[.int .i64 k8, .string a8, .string v8, .slice A8 n8 p8, .string f8] → TmAt (fun b => w.heap.size < b) (wx.setCell ⟨w.heap.size, i, none⟩ u) r.1 #[.int .i64 k8, .string a8, .string v8, .slice A8 n8 p8, .string f8] := fun wx i u h => h.map (grown_set _ _ _).size (fun _ _ h => h) fun p _ hp => World.cell?_setCell_other _ _ _ _ (fun e => by rw [← e] at hp; exact Nat.lt_irrefl _ hp)
      have hrf := (step _ 4 (.string f8) (step _ 3 (.slice A8 n8 p8) (step _ 2 (.string v8) (step _ 1 (.string a8) (step _ 0 (.int .i64 k8) HT.out)))))
      clear step
      generalize (((((w3.setCell ⟨w.heap.size, 0, none⟩ (.int .i64 k8)).setCell ⟨w.heap.size, 1, none⟩ (.string a8)).setCell ⟨w.heap.size, 2, none⟩ (.string v8)).setCell ⟨w.heap.size, 3, none⟩ (.slice A8 n8 p8)).setCell ⟨w.heap.size, 4, none⟩ (.string f8)) = wf at *
      have dC := fun i => hwf.cell i
      refine bodyPost_ret (v := .agg #[.int .i64 k8, .string a8, .string v8, .slice A8 n8 p8, .string f8]) (by simp [results, Tryz.results16, go_sem, dC]) rfl ⟨_, rfl, ?_, ?_, hgf⟩
      · rw [HTP.out]
        exact hrf.any fun b _ h => Nat.le_of_lt h
      · rw [HTP.out]
        exact hkf
    · by_cases h2 : x = wText
      · have q1 : ((bys x).toList == [116, 104, 101]) = false := beq_bys h1
        have q2 : ((bys x).toList == [116, 101, 120, 116]) = true := beq_bys_t h2
        replace HTP := Lib.hid (HTP.out.trans (by rw [if_neg h1, if_pos h2]))
        have hw2 := st_word st
        have hl2 := Lib.hid (word_len HSW.out.len)
        have HS2 := Lib.hid (HSW.out.st hw2)
        have hl3 := Lib.hid (charsP_len (wordP st).1 (wordP st).2).1
        clear h1 h2 hw2
        go_wp2_with fail
        refine (HWP.out _ _ K1.out HSW.out.len).mono ?_
        rintro e w3 ⟨rfl, hK, hg⟩
        replace K1 := Lib.hid hK
        replace K2 := Lib.hid (hg.blk K2.out (by have := HGP.out; omega))
        replace HGR := Lib.hid (HGR.out.trans hg)
        clear hK hg
        have HC := Lib.hid (chars_any B0 gp (wordP st).1 (wordP st).2 w3 (HG.out.keep (B := B0) (Nat.le_refl _) (HGR.out.down (by have := HB0.out; have := HGP.out; omega) HB0.out)) K1.out HS2.out.len hl2.out)
        go_wp2_with fail
        refine HC.out.mono ?_
        rintro e w4 ⟨rfl, hK, hg⟩
        replace K1 := Lib.hid hK
        replace K2 := Lib.hid (hg.blk K2.out (by have := HGP.out; omega))
        replace HGR := Lib.hid (HGR.out.trans hg)
        clear hK hg
        clear q1 q2 HC
        have c0 := fun i => K2.out.cell i
        have f0 := fun i => K2.out.frozen i
        go_wp2_with fail
        have hn : gp ≠ w.heap.size := by have := HGP.out; omega
        have hwf := (((((K2.out.set_ 0 (.int .i64 3)).set_ 1 (.string (bys (charsP (wordP st).1 (wordP st).2).1))).set_ 2 (.string ⟨#[]⟩)).set_ 3 (.slice none 0 0)).set_ 4 (.string ⟨#[]⟩))
        have hgf := (((((HGR.out.set (p := ⟨w.heap.size, 0, none⟩) (.inl (Nat.le_refl _)) (.int .i64 3)).set (p := ⟨w.heap.size, 1, none⟩) (.inl (Nat.le_refl _)) (.string (bys (charsP (wordP st).1 (wordP st).2).1))).set (p := ⟨w.heap.size, 2, none⟩) (.inl (Nat.le_refl _)) (.string ⟨#[]⟩)).set (p := ⟨w.heap.size, 3, none⟩) (.inl (Nat.le_refl _)) (.slice none 0 0)).set (p := ⟨w.heap.size, 4, none⟩) (.inl (Nat.le_refl _)) (.string ⟨#[]⟩))
        have hkf := (((((K1.out.far (p := ⟨w.heap.size, 0, none⟩) hn (.int .i64 3)).far (p := ⟨w.heap.size, 1, none⟩) hn (.string (bys (charsP (wordP st).1 (wordP st).2).1))).far (p := ⟨w.heap.size, 2, none⟩) hn (.string ⟨#[]⟩)).far (p := ⟨w.heap.size, 3, none⟩) hn (.slice none 0 0)).far (p := ⟨w.heap.size, 4, none⟩) hn (.string ⟨#[]⟩))
        clear c0 f0 hn
        generalize (((((w4.setCell ⟨w.heap.size, 0, none⟩ (.int .i64 3)).setCell ⟨w.heap.size, 1, none⟩ (.string (bys (charsP (wordP st).1 (wordP st).2).1))).setCell ⟨w.heap.size, 2, none⟩ (.string ⟨#[]⟩)).setCell ⟨w.heap.size, 3, none⟩ (.slice none 0 0)).setCell ⟨w.heap.size, 4, none⟩ (.string ⟨#[]⟩)) = wf at *
        have dC := fun i => hwf.cell i
        refine bodyPost_ret (v := .agg #[.int .i64 3, .string (bys (charsP (wordP st).1 (wordP st).2).1), .string ⟨#[]⟩, .slice none 0 0, .string ⟨#[]⟩]) (by simp [results, Tryz.results16, go_sem, dC]) rfl ⟨_, rfl, ?_, ?_, hgf⟩
        · rw [HTP.out]
          exact TmAt.zero _ _ _ _ (by rw [bys_len]; have := hl3.out; have := HS2.out.len; omega)
        · rw [HTP.out]
          exact hkf
      · have q1 : ((bys x).toList == [116, 104, 101]) = false := beq_bys h1
        have q2 : ((bys x).toList == [116, 101, 120, 116]) = false := beq_bys h2
        replace HTP := Lib.hid (HTP.out.trans (by rw [if_neg h1, if_neg h2]))
        clear h1 h2
        cases hd : digW x
        · replace HTP := Lib.hid (HTP.out.trans (by rw [if_neg (by rw [hd]; simp)]))
          have hl3 := Lib.hid (ident_len (a := x) (s := st) hlx.out HSW.out.len)
          have HIC := Lib.hid (HIP.out x st w2 (HG.out.keep (B := B0) (Nat.le_refl _) (HGR.out.down (by have := HB0.out; have := HGP.out; omega) HB0.out)) K1.out HSW.out.len)
          go_upto_region 11 with (fail)
          go_cut [39] (fun v wc => v = .bool false ∧ wc = w2)
          case first =>
            clear HTP HIC
            rcases dig_false hd with h | ⟨hp, h⟩
            · have hq : (bys x).toList.isEmpty = true := by rw [isEmpty_bys, h]; rfl
              have hq2 : (!(bys x).toList.isEmpty) = false := by rw [hq]; rfl
              clear h
              go_wp2_with fail
              go_meet
              exact ⟨rfl, rfl⟩
            · have hq : (bys x).toList.isEmpty = false := by rw [empty_size]; exact decide_eq_false (by omega)
              have hq2 : (!(bys x).toList.isEmpty) = true := by rw [hq]; rfl
              rcases h with h | h
              · go_wp2_with fail
                go_meet
                exact ⟨rfl, rfl⟩
              · have h48 : 48 ≤ (bys x)[0].toNat := by omega
                go_wp2_with fail
                go_meet
                exact ⟨congrArg Value.bool (decide_eq_false (by omega)), rfl⟩
          case rest =>
            obtain ⟨rfl, rfl⟩ := hcut
            go_wp2_with fail
            refine HIC.out.mono ?_
            rintro e w3 ⟨rfl, hK, hg⟩
            replace K1 := Lib.hid hK
            replace K2 := Lib.hid (hg.blk K2.out (by have := HGP.out; omega))
            replace HGR := Lib.hid (HGR.out.trans hg)
            clear hK hg
            clear q1 q2 HIC
            have c0 := fun i => K2.out.cell i
            have f0 := fun i => K2.out.frozen i
            go_wp2_with fail
            have hn : gp ≠ w.heap.size := by have := HGP.out; omega
            have hwf := (((((K2.out.set_ 0 (.int .i64 2)).set_ 1 (.string (bys (identP x st).1))).set_ 2 (.string ⟨#[]⟩)).set_ 3 (.slice none 0 0)).set_ 4 (.string ⟨#[]⟩))
            have hgf := (((((HGR.out.set (p := ⟨w.heap.size, 0, none⟩) (.inl (Nat.le_refl _)) (.int .i64 2)).set (p := ⟨w.heap.size, 1, none⟩) (.inl (Nat.le_refl _)) (.string (bys (identP x st).1))).set (p := ⟨w.heap.size, 2, none⟩) (.inl (Nat.le_refl _)) (.string ⟨#[]⟩)).set (p := ⟨w.heap.size, 3, none⟩) (.inl (Nat.le_refl _)) (.slice none 0 0)).set (p := ⟨w.heap.size, 4, none⟩) (.inl (Nat.le_refl _)) (.string ⟨#[]⟩))
            have hkf := (((((K1.out.far (p := ⟨w.heap.size, 0, none⟩) hn (.int .i64 2)).far (p := ⟨w.heap.size, 1, none⟩) hn (.string (bys (identP x st).1))).far (p := ⟨w.heap.size, 2, none⟩) hn (.string ⟨#[]⟩)).far (p := ⟨w.heap.size, 3, none⟩) hn (.slice none 0 0)).far (p := ⟨w.heap.size, 4, none⟩) hn (.string ⟨#[]⟩))
            clear c0 f0 hn
            generalize (((((w3.setCell ⟨w.heap.size, 0, none⟩ (.int .i64 2)).setCell ⟨w.heap.size, 1, none⟩ (.string (bys (identP x st).1))).setCell ⟨w.heap.size, 2, none⟩ (.string ⟨#[]⟩)).setCell ⟨w.heap.size, 3, none⟩ (.slice none 0 0)).setCell ⟨w.heap.size, 4, none⟩ (.string ⟨#[]⟩)) = wf at *
            have dC := fun i => hwf.cell i
            refine bodyPost_ret (v := .agg #[.int .i64 2, .string (bys (identP x st).1), .string ⟨#[]⟩, .slice none 0 0, .string ⟨#[]⟩]) (by simp [results, Tryz.results16, go_sem, dC]) rfl ⟨_, rfl, ?_, ?_, hgf⟩
            · rw [HTP.out]
              exact TmAt.zero _ _ _ _ (by rw [bys_len]; have := hl3.out; omega)
            · rw [HTP.out]
              exact hkf
        · replace HTP := Lib.hid (HTP.out.trans (by rw [if_pos hd]))
          obtain ⟨hp, h48, h57⟩ := dig_true hd
          have hq : (bys x).toList.isEmpty = false := by rw [empty_size]; exact decide_eq_false (by omega)
          have hq2 : (!(bys x).toList.isEmpty) = true := by rw [hq]; rfl
          go_upto_region 12 with (fail)
          clear hq hq2 q1 q2 hd
          have c0 := fun i => K2.out.cell i
          have f0 := fun i => K2.out.frozen i
          go_wp2_with fail
          have hn : gp ≠ w.heap.size := by have := HGP.out; omega
          have hwf := (((((K2.out.set_ 0 (.int .i64 1)).set_ 1 (.string (bys x))).set_ 2 (.string ⟨#[]⟩)).set_ 3 (.slice none 0 0)).set_ 4 (.string ⟨#[]⟩))
          have hgf := (((((HGR.out.set (p := ⟨w.heap.size, 0, none⟩) (.inl (Nat.le_refl _)) (.int .i64 1)).set (p := ⟨w.heap.size, 1, none⟩) (.inl (Nat.le_refl _)) (.string (bys x))).set (p := ⟨w.heap.size, 2, none⟩) (.inl (Nat.le_refl _)) (.string ⟨#[]⟩)).set (p := ⟨w.heap.size, 3, none⟩) (.inl (Nat.le_refl _)) (.slice none 0 0)).set (p := ⟨w.heap.size, 4, none⟩) (.inl (Nat.le_refl _)) (.string ⟨#[]⟩))
          have hkf := (((((K1.out.far (p := ⟨w.heap.size, 0, none⟩) hn (.int .i64 1)).far (p := ⟨w.heap.size, 1, none⟩) hn (.string (bys x))).far (p := ⟨w.heap.size, 2, none⟩) hn (.string ⟨#[]⟩)).far (p := ⟨w.heap.size, 3, none⟩) hn (.slice none 0 0)).far (p := ⟨w.heap.size, 4, none⟩) hn (.string ⟨#[]⟩))
          clear c0 f0 hn
          generalize (((((w2.setCell ⟨w.heap.size, 0, none⟩ (.int .i64 1)).setCell ⟨w.heap.size, 1, none⟩ (.string (bys x))).setCell ⟨w.heap.size, 2, none⟩ (.string ⟨#[]⟩)).setCell ⟨w.heap.size, 3, none⟩ (.slice none 0 0)).setCell ⟨w.heap.size, 4, none⟩ (.string ⟨#[]⟩)) = wf at *
          have dC := fun i => hwf.cell i
          refine bodyPost_ret (v := .agg #[.int .i64 1, .string (bys x), .string ⟨#[]⟩, .slice none 0 0, .string ⟨#[]⟩]) (by simp [results, Tryz.results16, go_sem, dC]) rfl ⟨_, rfl, ?_, ?_, hgf⟩
          · rw [HTP.out]
            exact TmAt.zero _ _ _ _ (by rw [bys_len]; have := hlx.out; omega)
          · rw [HTP.out]
            exact hkf
theorem parser_ok (B0 gp : Nat) : ∀ f : Nat, (∀ g, g ≤ f → TermOk B0 gp g) ∧ (∀ g, g ≤ f → ApplyOk B0 gp g)
  | 0 => ⟨fun g hg s w _ _ _ _ _ hf => by omega, fun g hg s w _ _ _ _ hf => by omega⟩
  | f + 1 => by
    obtain ⟨h1, h2⟩ := parser_ok B0 gp f
    have hA : ApplyOk B0 gp (f + 1) := apply_step B0 gp f h1
    refine ⟨fun g hg => ?_, fun g hg => ?_⟩
    · rcases Nat.lt_or_ge g (f + 1) with h | h
      · exact h1 g (by omega)
      · obtain rfl : g = f + 1 := by omega
        exact term_step B0 gp f fun _ => h2 f (Nat.le_refl _)
    · rcases Nat.lt_or_ge g (f + 1) with h | h
      · exact h2 g (by omega)
      · obtain rfl : g = f + 1 := by omega
        exact hA
theorem term_any (B0 gp f : Nat) : TermOk B0 gp f := (parser_ok B0 gp f).1 f (Nat.le_refl _)
end Go.Proofs.YtpokelkneblafaaGreatDoor
