/- The least precedences of an application's operands; the first readings of a cell of the table. -/
import Derived.Test.YtmhddlhlniajpaaFN
import Derived.Test.YtmhddlhlniajpaaRP7
namespace Go.Proofs.Ytmhddlhlniajpaa
open Go.RowKit
abbrev App.c (a : App) : Array Value := #[.int .i64 a.rule, .int .i64 a.frm, .int .i64 a.left, .int .i64 a.right, .int .i64 a.to, .int .i64 a.kids]
set_option maxRecDepth 100000 in
set_option maxHeartbeats 800000 in
theorem least_any (F : Fin) (rs : List Rul) (ts : List ByteArray) (jx : Int) (a : App) (w : World) (hF : FinAt w F rs ts) (ha : a.rule < rs.length) : Calls Try.prog 76 #[.agg (F.c rs.length ts.length jx), .agg a.c] w fun e w' => e = .returned (.tuple #[.int .i64 (lowR rs a.rule), .int .i64 (highR rs a.rule)]) ∧ Below w.heap.size w w' := by
  obtain ⟨x, hx⟩ : ∃ x, rs[a.rule]? = some x := ⟨_, List.getElem?_eq_getElem ha⟩
  have HL := Lib.hid (lowR_at hx)
  have HH := Lib.hid (highR_at hx)
  obtain ⟨R, cR, T, cT, I, cI, P, cP, Q, cQ⟩ := F
  obtain ⟨r, frm, left, right, t2, kids⟩ := a
  dsimp only at ha hx HL HH ⊢
  have hR := hF.rules
  dsimp only at hR
  clear hF
  have hb1 := bel_alloc w (.cells #[.slice R rs.length cR, .slice T ts.length cT, .slice I ts.length cI, .slice P ts.length cP, .slice Q ts.length cQ, .int .i64 jx] 81)
  have hb2 := hb1.alloc hb1.size (.cells #[.int .i64 r, .int .i64 frm, .int .i64 left, .int .i64 right, .int .i64 t2, .int .i64 kids] 111)
  obtain ⟨_, ad, rfl, hadl, c0, c1, c2, c3, c4, c5⟩ := (hR.keep hb2).at_ hx
  have HB := Lib.hid hb2
  clear hb1 hb2 hx hR
  cases hk : (x.kind == 2)
  · rw [if_neg (by rw [beq_eq_false_iff_ne] at hk; exact hk)] at HL HH
    go_enter Try.func76, Try.ntmps76
    go_wp2_with fail
    go_quiet (fail)
    go_wp2_with fail
    go_ret2
    exact ⟨by rw [HL.out, HH.out]; rfl, below_drewN (HB.out.alloc HB.out.size _) _⟩
  · rw [if_pos (by simpa using hk)] at HL HH
    go_enter Try.func76, Try.ntmps76
    go_wp2_with fail
    go_ret2
    exact ⟨by rw [HL.out, HH.out]; rfl, HB.out.alloc HB.out.size _⟩
/-- the table: of the tokens from i to j - 1, what the program keeps, where it is filled -/
structure TabAt (w : World) (g : Nat) (F : Fin) (rs : List Rul) (ts : List ByteArray) (gc : Nat) (rows : Nat → Nat) (fill : Nat → Nat → Bool) : Prop where
  blk : Blk w g 85 #[.slice F.R rs.length F.cR, .slice F.T ts.length F.cT, .slice F.I ts.length F.cI, .slice F.P ts.length F.cP, .slice F.Q ts.length F.cQ, .int .i64 (findI rs 4 []), .slice (some ⟨gc, 0, none⟩) ts.length ts.length]
  fin : FinAt w F rs ts
  outer : ∃ cs, Blk w gc 86 cs ∧ ∀ i, i < ts.length → cs[i]? = some (.slice (some ⟨rows i, 0, none⟩) (ts.length + 1) (ts.length + 1))
  row : ∀ i, i < ts.length → ∃ cs, Blk w (rows i) 55 cs ∧ cs.size = ts.length + 1 ∧ ∀ j, fill i j = true → ∃ A cap bs, cs[j]? = some (.slice A bs.length cap) ∧ bs.length ≤ cap ∧ cap ≤ 9223372036854775807 ∧ PtrsO w A bs ∧ Shs rs w bs (cellR rs ts i j)
theorem TabAt.keep {w w' : World} {g : Nat} {F : Fin} {rs : List Rul} {ts : List ByteArray} {gc : Nat} {rows : Nat → Nat} {fill : Nat → Nat → Bool} (h : TabAt w g F rs ts gc rows fill) (hb : Below w.heap.size w w') : TabAt w' g F rs ts gc rows fill := by
  obtain ⟨h1, h2, ⟨cs, h3, h4⟩, h5⟩ := h
  refine ⟨_root_.Go.Proofs.Ytmhddlhlniajpaa.keep hb h1, h2.keep hb, ⟨cs, _root_.Go.Proofs.Ytmhddlhlniajpaa.keep hb h3, h4⟩, fun i hi => ?_⟩
  obtain ⟨cs, h6, h7, h8⟩ := h5 i hi
  refine ⟨cs, _root_.Go.Proofs.Ytmhddlhlniajpaa.keep hb h6, h7, fun j hj => ?_⟩
  obtain ⟨A, cap, bs, h9, ha, hb', hc, hd⟩ := h8 j hj
  exact ⟨A, cap, bs, h9, ha, hb', hc.keep hb, hd.keep hb⟩
theorem TabAt.drew {w : World} {g : Nat} {F : Fin} {rs : List Rul} {ts : List ByteArray} {gc : Nat} {rows : Nat → Nat} {fill : Nat → Nat → Bool} (h : TabAt w g F rs ts gc rows fill) : TabAt w.drew g F rs ts gc rows fill := h.keep (below_drew (Below.refl _ _))
/-- the cells on the way to a cell of the table -/
theorem TabAt.at_ {w : World} {g : Nat} {F : Fin} {rs : List Rul} {ts : List ByteArray} {gc : Nat} {rows : Nat → Nat} {fill : Nat → Nat → Bool} (h : TabAt w g F rs ts gc rows fill) {i j : Nat} (hi : i < ts.length) (hf : fill i j = true) :
    w.cell? ⟨g, 6, none⟩ = some (.slice (some ⟨gc, 0, none⟩) ts.length ts.length) ∧ w.cell? ⟨gc, i, none⟩ = some (.slice (some ⟨rows i, 0, none⟩) (ts.length + 1) (ts.length + 1)) ∧ ∃ A cap bs, w.cell? ⟨rows i, j, none⟩ = some (.slice A bs.length cap) ∧ bs.length ≤ cap ∧ cap ≤ 9223372036854775807 ∧ PtrsO w A bs ∧ Shs rs w bs (cellR rs ts i j) := by
  obtain ⟨h1, _, ⟨cs, h3, h4⟩, h5⟩ := h
  obtain ⟨cs', h6, _, h8⟩ := h5 i hi
  obtain ⟨A, cap, bs, h9, ha, hb, hc, hd⟩ := h8 j hf
  exact ⟨(h1.cell 6).trans rfl, (h3.cell i).trans (h4 i hi), A, cap, bs, (h6.cell j).trans h9, ha, hb, hc, hd⟩
def ReadsP (rs : List Rul) (xs : List Rd) (w : World) (e : Ending) (w' : World) : Prop := ∃ v bs, e = .returned v ∧ OwnP w' w.heap.size v bs ∧ Shs rs w' bs xs ∧ Below w.heap.size w w'
theorem least_split {rs : List Rul} {xs : List Rd} {k : Nat} {p : Int} : leastR rs xs p = leastR rs (xs.take k) p ++ leastR rs (xs.drop k) p := by rw [← least_append, List.take_append_drop]
theorem first_stop {rs : List Rul} {ts : List ByteArray} {i j k : Nat} {p : Int} (hij : i < j) (h : (leastR rs ((cellR rs ts i j).take k) p).length = 2) : firstR rs ts i j p = leastR rs ((cellR rs ts i j).take k) p := by
  unfold firstR
  rw [← cell_two hij, least_split (k := k), List.take_append, h, List.take_of_length_le (by omega)]
  simp
theorem first_end {rs : List Rul} {ts : List ByteArray} {i j : Nat} {p : Int} (hij : i < j) (h : (leastR rs (cellR rs ts i j) p).length < 2) : firstR rs ts i j p = leastR rs (cellR rs ts i j) p := by
  unfold firstR
  rw [← cell_two hij, List.take_of_length_le (by omega)]
theorem least_snoc {rs : List Rul} {xs : List Rd} {k : Nat} {x : Rd} {p : Int} (hx : xs[k]? = some x) : leastR rs (xs.take (k + 1)) p = leastR rs (xs.take k) p ++ (if p ≤ precI rs x.rule then [x] else []) := by
  rw [List.take_add_one, hx, least_append]
  congr 1
  show leastR rs [x] p = _
  unfold leastR
  by_cases h : p ≤ precI rs x.rule
  · rw [if_pos h, List.filter_cons, if_pos (decide_eq_true h)]; rfl
  · rw [if_neg h, List.filter_cons, if_neg (by simpa using h)]; rfl
set_option maxRecDepth 100000 in
set_option maxHeartbeats 1600000 in
theorem first_any (g : Nat) (F : Fin) (rs : List Rul) (ts : List ByteArray) (gc : Nat) (rows : Nat → Nat) (fill : Nat → Nat → Bool) (i j : Nat) (p : Int) (w : World) (hT : TabAt w g F rs ts gc rows fill) (hij : i < j) (hj : j ≤ ts.length) (hf : fill i j = true) (hn : rs.length ≤ 1000000) : Calls Try.prog 30 #[ptrV g, .int .i64 i, .int .i64 j, .int .i64 p] w (ReadsP rs (firstR rs ts i j p) w) := by
  obtain ⟨i0, hi, hz0, hz1, hz2⟩ := info_parts info_ptr
  obtain ⟨c6, ci, A, cap, bs, cj, hbc, hcc, hP, hS⟩ := hT.at_ (show i < ts.length by omega) hf
  have HP := Lib.hid hP
  have HS := Lib.hid hS
  have HLN := Lib.hid hS.1
  have HST := Lib.hid (fun k => first_stop (rs := rs) (ts := ts) (k := k) (p := p) hij)
  have HEN := Lib.hid (first_end (rs := rs) (ts := ts) (p := p) hij)
  have hci : (i : Int) < (ts.length : Int) := by omega
  have hcj : (j : Int) < (ts.length : Int) + 1 := by omega
  have hbl : bs.length ≤ 3000000 := by
    rw [hS.1]
    unfold cellR
    have h1 : (baseR ts i j).length ≤ 1 := by unfold baseR; split <;> simp
    have h2 := flat_le (f := fun n => (ofRule rs ts (allR rs ts) i j n).take 2) (b := 2) (l := List.range rs.length) fun n _ => by simp; omega
    rw [List.length_range] at h2
    rw [List.length_append]
    omega
  clear hP hS hT hf
  generalize cellR rs ts i j = xs at *
  go_enter Try.func30, Try.ntmps30
  go_wp2_with fail
  clear c6 ci cj hci hcj
  go_loopw [9, 23] (fun v n wr => ∃ (k : Nat) (cs : List Nat), k ≤ bs.length ∧ n = .int .i64 k ∧ Hid (OwnP wr w.heap.size v cs) ∧ Hid (Shs rs wr cs (leastR rs (xs.take k) p)) ∧ (cs.length = 0 ∨ cs.length = 1) ∧ Hid (Below w.heap.size w wr)) (fun _ n _ => bs.length - (intOf n).toNat)
  case atStart => exact ⟨0, [], by omega, rfl, OwnP.nil _ _, Shs.nil, .inl rfl, Below.refl _ _⟩
  case round =>
    obtain ⟨k, cs, hk, rfl, HO, HC, hcl, HB⟩ := hrel
    by_cases hlt : k < bs.length
    · obtain ⟨b, hb⟩ : ∃ b, bs[k]? = some b := ⟨_, List.getElem?_eq_getElem hlt⟩
      obtain ⟨x, hx⟩ : ∃ x, xs[k]? = some x := ⟨_, List.getElem?_eq_getElem (by rw [← HLN.out]; exact hlt)⟩
      obtain ⟨ga, rfl, _, c0⟩ := (HP.out.keep HB.out) k b hb
      have HX := Lib.hid (((HS.out.keep HB.out).2 k b x hb hx))
      obtain ⟨k0, k1, hK⟩ := HX.out.blk
      have c2 : wr.cell? ⟨b, 2, none⟩ = some (.int .i64 (precI rs x.rule)) := hK.cell 2
      have HSN := Lib.hid (least_snoc (rs := rs) (p := p) hx)
      clear hb hx hK
      by_cases hp : p ≤ precI rs x.rule
      · have HS2 := Lib.hid (show leastR rs (xs.take (k + 1)) p = leastR rs (xs.take k) p ++ [x] by rw [HSN.out, if_pos hp])
        obtain ⟨A5, cap5, rfl, hcl5, hcap5, _⟩ := HO.out.form
        have hown := (show wr.ownsRow w.heap.size 57 1 (.slice A5 cs.length cap5) cs.length (cs.map ptrV) from HO.out).alloc (.cells #[ptrV b] 57)
        have HBL := Lib.hid (World.ownsRow.lt (show wr.ownsRow w.heap.size 57 1 (.slice A5 cs.length cap5) cs.length (cs.map ptrV) from HO.out))
        have HSZ := Lib.hid HB.out.size
        generalize precI rs x.rule = q at *
        go_wp2_with (at_builtin; refine wpList_append_own_at _ rfl (.tmp 33) (.tmp 35) 55 rfl w.heap.size 57 i0 (.pointer none) 1 8 Try.underlying55 hi hz0 hz1 hz2 rfl (by decide) _ _ _ rfl hown ⟨wr.heap.size, 0, none⟩ 1 1 [ptrV b] rfl rfl (cells_new _ _ _) ?c2a ?c3a ?c4a ?c5a ?_)
        case c2a => intro u hu; simp at hu; subst hu; rfl
        case c3a => unfold maxLen; omega
        case c4a => omega
        case c5a => have := HSZ.out; simp; omega
        intro v' w4 hown' hgrow _ hloc
        have NB := Lib.hid ((HB.out.alloc HB.out.size (.cells #[ptrV b] 57)).grown hgrow (by have := HSZ.out; simp; omega) (fun k hk => (HBL.out k hk).1))
        have NO := Lib.hid (ptrs_snoc rfl hown')
        have hrow : ∀ r, (Value.slice A5 cs.length cap5).ownBlock = some r → ∃ t cs', Blk (wr.alloc (.cells #[ptrV b] 57)) r t cs' ∧ t ≠ 90 := by
          intro r hr
          rcases hown.2 with ⟨h1, _⟩ | ⟨g', cap', cur, h1, _, h2, _⟩
          · rw [h1] at hr; cases hr
          · rw [h1] at hr
            obtain rfl : g' = r := Option.some.inj hr
            exact ⟨_, _, h2, by decide⟩
        have NC := Lib.hid ((Shs.snoc (HC.out.keep (bel_alloc _ (.cells #[ptrV b] 57))) (HX.out.keep (bel_alloc _ (.cells #[ptrV b] 57)))).map fun g cs' hb => hb.grown hgrow fun e => by
          obtain ⟨t, cs2, h1, h2⟩ := hrow g e.symm
          exact h2 (blk_type h1 hb))
        rw [← HS2.out] at NC
        clear hown hown' hgrow hloc hrow HO HB HC HBL c0 c2
        have hle : (cs ++ [b]).length = cs.length + 1 := by simp
        obtain ⟨A6, cap6, rfl, _, _, _⟩ := NO.out.form
        have HL2 := Lib.hid NC.out.1
        rcases hcl with h0 | h1
        · have hL1 : (cs ++ [b]).length = 1 := by rw [hle, h0]
          rw [hL1] at NO ⊢
          clear hle
          go_wp2_with fail
          go_roundw
          case rel => exact ⟨k + 1, cs ++ [b], by omega, by go_num, NO, NC, .inr hL1, NB⟩
          case measure => simp [intOf]; omega
        · have hL1 : (cs ++ [b]).length = 2 := by rw [hle, h1]
          have HF2 := Lib.hid (HST.out (k + 1) (by rw [← NC.out.1, hL1]))
          rw [hL1] at NO ⊢
          clear hle hL1
          go_wp2_with fail
          go_ret
          exact ⟨_, _, rfl, NO.out, by rw [HF2.out]; exact NC.out, NB.out⟩
      · have HS2 := Lib.hid (show leastR rs (xs.take (k + 1)) p = leastR rs (xs.take k) p by rw [HSN.out, if_neg hp, List.append_nil])
        have q0 : ¬ p ≤ precI rs x.rule := hp
        rw [← HS2.out] at HC
        generalize precI rs x.rule = q at *
        go_wp2_with fail
        go_roundw
        case rel => exact ⟨k + 1, cs, by omega, by go_num, HO, HC, hcl, HB⟩
        case measure => simp [intOf]; omega
    · obtain rfl : k = bs.length := by omega
      rw [HLN.out, List.take_length] at HC
      have HF2 := Lib.hid (HEN.out (by rw [← HC.out.1]; omega))
      go_wp2_with fail
      go_ret
      exact ⟨_, _, rfl, HO.out, by rw [HF2.out]; exact HC.out, HB.out⟩
end Go.Proofs.Ytmhddlhlniajpaa
