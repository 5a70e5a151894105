/- The least precedences of an application's operands; the first readings of a cell of the table · The applications of rules to tokens, for whatever function is called for each -/
import Derived.Test.YthpioplpfmlgcaaGreatDoorH4c6de665
namespace Go.Proofs.YthpioplpfmlgcaaGreatDoor.Ch
open Go.RowKit
abbrev App.c (a : App) : Array Value := #[.int .i64 a.rule, .int .i64 a.frm, .int .i64 a.left, .int .i64 a.right, .int .i64 a.to, .int .i64 a.kids]
set_option maxRecDepth 100000 in
set_option maxHeartbeats 800000 in
theorem least_any (F : Fin) (rs : List Rul) (ts : List ByteArray) (jx : Int) (a : App) (w : World) (hF : FinAt w F rs ts) (ha : a.rule < rs.length) : Calls Tryz.prog 157 #[.agg (F.c rs.length ts.length jx), .agg a.c] w fun e w' => e = .returned (.tuple #[.int .i64 (lowR rs a.rule), .int .i64 (highR rs a.rule)]) ∧ Below w.heap.size w w' := by
  obtain ⟨x, hx⟩ : ∃ x, rs[a.rule]? = some x := ⟨_, List.getElem?_eq_getElem ha⟩
  have HL := Lib.hid (lowR_at hx)
  have HH := Lib.hid (highR_at hx)
  obtain ⟨R, cR, T, cT, I, cI, P, cP, Q, cQ⟩ := F
  obtain ⟨r, frm, left, right, t2, kids⟩ := a
  dsimp only at ha hx HL HH ⊢
  have hR := hF.rules
  dsimp only at hR
  clear hF
  have hb1 := bel_alloc w (.cells #[.slice R rs.length cR, .slice T ts.length cT, .slice I ts.length cI, .slice P ts.length cP, .slice Q ts.length cQ, .int .i64 jx] 167)
  have hb2 := hb1.alloc hb1.size (.cells #[.int .i64 r, .int .i64 frm, .int .i64 left, .int .i64 right, .int .i64 t2, .int .i64 kids] 190)
  obtain ⟨_, ad, rfl, hadl, c0, c1, c2, c3, c4, c5⟩ := (hR.keep hb2).at_ hx
  have HB := Lib.hid hb2
  clear hb1 hb2 hx hR
  cases hk : (x.kind == 2)
  · rw [if_neg (by rw [beq_eq_false_iff_ne] at hk; exact hk)] at HL HH
    go_enter Tryz.func157, Tryz.ntmps157
    go_wp2_with fail
    go_quiet (fail)
    go_wp2_with fail
    go_ret2
    exact ⟨by rw [HL.out, HH.out]; rfl, below_drewN (HB.out.alloc HB.out.size _) _⟩
  · rw [if_pos (by simpa using hk)] at HL HH
    go_enter Tryz.func157, Tryz.ntmps157
    go_wp2_with fail
    go_ret2
    exact ⟨by rw [HL.out, HH.out]; rfl, HB.out.alloc HB.out.size _⟩
/-- the table: of the tokens from i to j - 1, what the program keeps, where it is filled -/
structure TabAt (w : World) (g : Nat) (F : Fin) (rs : List Rul) (ts : List ByteArray) (gc : Nat) (rows : Nat → Nat) (fill : Nat → Nat → Bool) : Prop where
  blk : Blk w g 171 #[.slice F.R rs.length F.cR, .slice F.T ts.length F.cT, .slice F.I ts.length F.cI, .slice F.P ts.length F.cP, .slice F.Q ts.length F.cQ, .int .i64 (findI rs 4 []), .slice (some ⟨gc, 0, none⟩) ts.length ts.length]
  fin : FinAt w F rs ts
  outer : ∃ cs, Blk w gc 172 cs ∧ ∀ i, i < ts.length → cs[i]? = some (.slice (some ⟨rows i, 0, none⟩) (ts.length + 1) (ts.length + 1))
  row : ∀ i, i < ts.length → ∃ cs, Blk w (rows i) 135 cs ∧ cs.size = ts.length + 1 ∧ ∀ j, fill i j = true → ∃ A cap bs, cs[j]? = some (.slice A bs.length cap) ∧ bs.length ≤ cap ∧ cap ≤ 9223372036854775807 ∧ PtrsO w A bs ∧ Shs rs w bs (cellR rs ts i j)
theorem TabAt.keep {w w' : World} {g : Nat} {F : Fin} {rs : List Rul} {ts : List ByteArray} {gc : Nat} {rows : Nat → Nat} {fill : Nat → Nat → Bool} (h : TabAt w g F rs ts gc rows fill) (hb : Below w.heap.size w w') : TabAt w' g F rs ts gc rows fill := by
  obtain ⟨h1, h2, ⟨cs, h3, h4⟩, h5⟩ := h
  refine ⟨_root_.Go.Proofs.YthpioplpfmlgcaaGreatDoor.keep hb h1, h2.keep hb, ⟨cs, _root_.Go.Proofs.YthpioplpfmlgcaaGreatDoor.keep hb h3, h4⟩, fun i hi => ?_⟩
  obtain ⟨cs, h6, h7, h8⟩ := h5 i hi
  refine ⟨cs, _root_.Go.Proofs.YthpioplpfmlgcaaGreatDoor.keep hb h6, h7, fun j hj => ?_⟩
  obtain ⟨A, cap, bs, h9, ha, hb', hc, hd⟩ := h8 j hj
  exact ⟨A, cap, bs, h9, ha, hb', hc.keep hb, hd.keep hb⟩
theorem TabAt.drew {w : World} {g : Nat} {F : Fin} {rs : List Rul} {ts : List ByteArray} {gc : Nat} {rows : Nat → Nat} {fill : Nat → Nat → Bool} (h : TabAt w g F rs ts gc rows fill) : TabAt w.drew g F rs ts gc rows fill := h.keep (below_drew (Below.refl _ _))
/-- the cells on the way to a cell of the table -/
theorem TabAt.at_ {w : World} {g : Nat} {F : Fin} {rs : List Rul} {ts : List ByteArray} {gc : Nat} {rows : Nat → Nat} {fill : Nat → Nat → Bool} (h : TabAt w g F rs ts gc rows fill) {i j : Nat} (hi : i < ts.length) (hf : fill i j = true) :
    w.cell? ⟨g, 6, none⟩ = some (.slice (some ⟨gc, 0, none⟩) ts.length ts.length) ∧ w.cell? ⟨gc, i, none⟩ = some (.slice (some ⟨rows i, 0, none⟩) (ts.length + 1) (ts.length + 1)) ∧ ∃ A cap bs, w.cell? ⟨rows i, j, none⟩ = some (.slice A bs.length cap) ∧ bs.length ≤ cap ∧ cap ≤ 9223372036854775807 ∧ PtrsO w A bs ∧ Shs rs w bs (cellR rs ts i j) := by
  obtain ⟨h1, _, ⟨cs, h3, h4⟩, h5⟩ := h
  obtain ⟨cs', h6, _, h8⟩ := h5 i hi
  obtain ⟨A, cap, bs, h9, ha, hb, hc, hd⟩ := h8 j hf
  exact ⟨(h1.cell 6).trans rfl, (h3.cell i).trans (h4 i hi), A, cap, bs, (h6.cell j).trans h9, ha, hb, hc, hd⟩
def ReadsP (rs : List Rul) (xs : List Rd) (w : World) (e : Ending) (w' : World) : Prop := ∃ v bs, e = .returned v ∧ OwnP w' w.heap.size v bs ∧ Shs rs w' bs xs ∧ Below w.heap.size w w'
theorem least_split {rs : List Rul} {xs : List Rd} {k : Nat} {p : Int} : leastR rs xs p = leastR rs (xs.take k) p ++ leastR rs (xs.drop k) p := by rw [← least_append, List.take_append_drop]
theorem first_stop {rs : List Rul} {ts : List ByteArray} {i j k : Nat} {p : Int} (hij : i < j) (h : (leastR rs ((cellR rs ts i j).take k) p).length = 2) : firstR rs ts i j p = leastR rs ((cellR rs ts i j).take k) p := by
  unfold firstR
  rw [← cell_two hij, least_split (k := k), List.take_append, h, List.take_of_length_le (by omega)]
  simp
theorem first_end {rs : List Rul} {ts : List ByteArray} {i j : Nat} {p : Int} (hij : i < j) (h : (leastR rs (cellR rs ts i j) p).length < 2) : firstR rs ts i j p = leastR rs (cellR rs ts i j) p := by
  unfold firstR
  rw [← cell_two hij, List.take_of_length_le (by omega)]
theorem least_snoc {rs : List Rul} {xs : List Rd} {k : Nat} {x : Rd} {p : Int} (hx : xs[k]? = some x) : leastR rs (xs.take (k + 1)) p = leastR rs (xs.take k) p ++ (if p ≤ precI rs x.rule then [x] else []) := by
  rw [List.take_add_one, hx, least_append]
  congr 1
  show leastR rs [x] p = _
  unfold leastR
  by_cases h : p ≤ precI rs x.rule
  · rw [if_pos h, List.filter_cons, if_pos (decide_eq_true h)]; rfl
  · rw [if_neg h, List.filter_cons, if_neg (by simpa using h)]; rfl
set_option maxRecDepth 100000 in
set_option maxHeartbeats 1600000 in
theorem first_any (g : Nat) (F : Fin) (rs : List Rul) (ts : List ByteArray) (gc : Nat) (rows : Nat → Nat) (fill : Nat → Nat → Bool) (i j : Nat) (p : Int) (w : World) (hT : TabAt w g F rs ts gc rows fill) (hij : i < j) (hj : j ≤ ts.length) (hf : fill i j = true) (hn : rs.length ≤ 1000000) : Calls Tryz.prog 87 #[ptrV g, .int .i64 i, .int .i64 j, .int .i64 p] w (ReadsP rs (firstR rs ts i j p) w) := by
  obtain ⟨i0, hi, hz0, hz1, hz2⟩ := info_parts info_ptr
  obtain ⟨c6, ci, A, cap, bs, cj, hbc, hcc, hP, hS⟩ := hT.at_ (show i < ts.length by omega) hf
  have HP := Lib.hid hP
  have HS := Lib.hid hS
  have HLN := Lib.hid hS.1
  have HST := Lib.hid (fun k => first_stop (rs := rs) (ts := ts) (k := k) (p := p) hij)
  have HEN := Lib.hid (first_end (rs := rs) (ts := ts) (p := p) hij)
  have hci : (i : Int) < (ts.length : Int) := by omega
  have hcj : (j : Int) < (ts.length : Int) + 1 := by omega
  have hbl : bs.length ≤ 3000000 := by
    rw [hS.1]
    unfold cellR
    have h1 : (baseR ts i j).length ≤ 1 := by unfold baseR; split <;> simp
    have h2 := flat_le (f := fun n => (ofRule rs ts (allR rs ts) i j n).take 2) (b := 2) (l := List.range rs.length) fun n _ => by simp; omega
    rw [List.length_range] at h2
    rw [List.length_append]
    omega
  clear hP hS hT hf
  generalize cellR rs ts i j = xs at *
  go_enter Tryz.func87, Tryz.ntmps87
  go_wp2_with fail
  clear c6 ci cj hci hcj
  go_loopw [9, 23] (fun v n wr => ∃ (k : Nat) (cs : List Nat), k ≤ bs.length ∧ n = .int .i64 k ∧ Hid (OwnP wr w.heap.size v cs) ∧ Hid (Shs rs wr cs (leastR rs (xs.take k) p)) ∧ (cs.length = 0 ∨ cs.length = 1) ∧ Hid (Below w.heap.size w wr)) (fun _ n _ => bs.length - (intOf n).toNat)
  case atStart => exact ⟨0, [], by omega, rfl, OwnP.nil _ _, Shs.nil, .inl rfl, Below.refl _ _⟩
  case round =>
    obtain ⟨k, cs, hk, rfl, HO, HC, hcl, HB⟩ := hrel
    by_cases hlt : k < bs.length
    · obtain ⟨b, hb⟩ : ∃ b, bs[k]? = some b := ⟨_, List.getElem?_eq_getElem hlt⟩
      obtain ⟨x, hx⟩ : ∃ x, xs[k]? = some x := ⟨_, List.getElem?_eq_getElem (by rw [← HLN.out]; exact hlt)⟩
      obtain ⟨ga, rfl, _, c0⟩ := (HP.out.keep HB.out) k b hb
      have HX := Lib.hid (((HS.out.keep HB.out).2 k b x hb hx))
      obtain ⟨k0, k1, hK⟩ := HX.out.blk
      have c2 : wr.cell? ⟨b, 2, none⟩ = some (.int .i64 (precI rs x.rule)) := hK.cell 2
      have HSN := Lib.hid (least_snoc (rs := rs) (p := p) hx)
      clear hb hx hK
      by_cases hp : p ≤ precI rs x.rule
      · have HS2 := Lib.hid (show leastR rs (xs.take (k + 1)) p = leastR rs (xs.take k) p ++ [x] by rw [HSN.out, if_pos hp])
        obtain ⟨A5, cap5, rfl, hcl5, hcap5, _⟩ := HO.out.form
        have hown := (show wr.ownsRow w.heap.size 137 1 (.slice A5 cs.length cap5) cs.length (cs.map ptrV) from HO.out).alloc (.cells #[ptrV b] 137)
        have HBL := Lib.hid (World.ownsRow.lt (show wr.ownsRow w.heap.size 137 1 (.slice A5 cs.length cap5) cs.length (cs.map ptrV) from HO.out))
        have HSZ := Lib.hid HB.out.size
        generalize precI rs x.rule = q at *
        go_wp2_with (at_builtin; refine wpList_append_own_at _ rfl (.tmp 33) (.tmp 35) 135 rfl w.heap.size 137 i0 (.pointer none) 1 8 Tryz.underlying135 hi hz0 hz1 hz2 rfl (by decide) _ _ _ rfl hown ⟨wr.heap.size, 0, none⟩ 1 1 [ptrV b] rfl rfl (cells_new _ _ _) ?c2a ?c3a ?c4a ?c5a ?_)
        case c2a => intro u hu; simp at hu; subst hu; rfl
        case c3a => unfold maxLen; omega
        case c4a => omega
        case c5a => have := HSZ.out; simp; omega
        intro v' w4 hown' hgrow _ hloc
        have NB := Lib.hid ((HB.out.alloc HB.out.size (.cells #[ptrV b] 137)).grown hgrow (by have := HSZ.out; simp; omega) (fun k hk => (HBL.out k hk).1))
        have NO := Lib.hid (ptrs_snoc rfl hown')
        have hrow : ∀ r, (Value.slice A5 cs.length cap5).ownBlock = some r → ∃ t cs', Blk (wr.alloc (.cells #[ptrV b] 137)) r t cs' ∧ t ≠ 176 := by
          intro r hr
          rcases hown.2 with ⟨h1, _⟩ | ⟨g', cap', cur, h1, _, h2, _⟩
          · rw [h1] at hr; cases hr
          · rw [h1] at hr
            obtain rfl : g' = r := Option.some.inj hr
            exact ⟨_, _, h2, by decide⟩
        have NC := Lib.hid ((Shs.snoc (HC.out.keep (bel_alloc _ (.cells #[ptrV b] 137))) (HX.out.keep (bel_alloc _ (.cells #[ptrV b] 137)))).map fun g cs' hb => hb.grown hgrow fun e => by
          obtain ⟨t, cs2, h1, h2⟩ := hrow g e.symm
          exact h2 (blk_type h1 hb))
        rw [← HS2.out] at NC
        clear hown hown' hgrow hloc hrow HO HB HC HBL c0 c2
        have hle : (cs ++ [b]).length = cs.length + 1 := by simp
        obtain ⟨A6, cap6, rfl, _, _, _⟩ := NO.out.form
        have HL2 := Lib.hid NC.out.1
        rcases hcl with h0 | h1
        · have hL1 : (cs ++ [b]).length = 1 := by rw [hle, h0]
          rw [hL1] at NO ⊢
          clear hle
          go_wp2_with fail
          go_roundw
          case rel => exact ⟨k + 1, cs ++ [b], by omega, by go_num, NO, NC, .inr hL1, NB⟩
          case measure => simp [intOf]; omega
        · have hL1 : (cs ++ [b]).length = 2 := by rw [hle, h1]
          have HF2 := Lib.hid (HST.out (k + 1) (by rw [← NC.out.1, hL1]))
          rw [hL1] at NO ⊢
          clear hle hL1
          go_wp2_with fail
          go_ret
          exact ⟨_, _, rfl, NO.out, by rw [HF2.out]; exact NC.out, NB.out⟩
      · have HS2 := Lib.hid (show leastR rs (xs.take (k + 1)) p = leastR rs (xs.take k) p by rw [HSN.out, if_neg hp, List.append_nil])
        have q0 : ¬ p ≤ precI rs x.rule := hp
        rw [← HS2.out] at HC
        generalize precI rs x.rule = q at *
        go_wp2_with fail
        go_roundw
        case rel => exact ⟨k + 1, cs, by omega, by go_num, HO, HC, hcl, HB⟩
        case measure => simp [intOf]; omega
    · obtain rfl : k = bs.length := by omega
      rw [HLN.out, List.take_length] at HC
      have HF2 := Lib.hid (HEN.out (by rw [← HC.out.1]; omega))
      go_wp2_with fail
      go_ret
      exact ⟨_, _, rfl, HO.out, by rw [HF2.out]; exact HC.out, HB.out⟩
end Go.Proofs.YthpioplpfmlgcaaGreatDoor.Ch
namespace Go.Proofs.YthpioplpfmlgcaaGreatDoor.Ch
open Go.RowKit
/-- what is called for each application -/
def Visits (fid : FuncId) (caps : Array Value) (rs : List Rul) (ts : List ByteArray) (i j : Nat) (Inv : List App → World → Prop) : Prop :=
  ∀ (l : List App) (a : App) (m : List App) (w : World), appsR rs ts i j = l ++ a :: m → Inv l w → Calls Tryz.prog fid (#[.agg a.c] ++ caps) w fun e w' => e = .returned undef ∧ Inv (l ++ [a]) w' ∧ ∀ g cs, Blk w g 167 cs → Blk w' g 167 cs
def preB (rs : List Rul) (ts : List ByteArray) (i j : Nat) : Bool := (findR rs 2 (tokL ts i)).isSome && decide (i + 1 < j)
def postB (rs : List Rul) (ts : List ByteArray) (i j : Nat) : Bool := (findR rs 3 (tokL ts (j - 1))).isSome && decide (i + 1 < j)
def inB_ (rs : List Rul) (ts : List ByteArray) (j k : Nat) : Bool := (findR rs 1 (tokL ts k)).isSome && decide (k + 1 < j)
theorem findI_some {rs : List Rul} {kind : Int} {s : List UInt8} {r : Nat} (h : findR rs kind s = some r) : findI rs kind s = r := by unfold findI; rw [h]
theorem findI_none {rs : List Rul} {kind : Int} {s : List UInt8} (h : findR rs kind s = none) : findI rs kind s = -1 := by unfold findI; rw [h]
theorem pre_yes {rs : List Rul} {ts : List ByteArray} {i j : Nat} (h : preB rs ts i j = true) : ∃ r : Nat, findI rs 2 (tokL ts i) = r ∧ preA rs ts i j = [⟨r, i + 1, j, 0, 0, 1⟩] ∧ r < rs.length := by
  unfold preB at h
  rw [Bool.and_eq_true] at h
  obtain ⟨r, hr⟩ := Option.isSome_iff_exists.1 h.1
  refine ⟨r, findI_some hr, ?_, ?_⟩
  · unfold preA; rw [hr]; exact if_pos (of_decide_eq_true h.2)
  · obtain ⟨x, hx, _⟩ := find_some hr; exact (List.getElem?_eq_some_iff.1 hx).1
theorem pre_no {rs : List Rul} {ts : List ByteArray} {i j : Nat} (h : preB rs ts i j = false) : preA rs ts i j = [] := by
  unfold preB at h
  unfold preA
  cases hr : findR rs 2 (tokL ts i) with
  | none => rfl
  | some r =>
    rw [hr] at h
    exact if_neg (of_decide_eq_false (by simpa using h))
theorem post_yes {rs : List Rul} {ts : List ByteArray} {i j : Nat} (h : postB rs ts i j = true) : ∃ r : Nat, findI rs 3 (tokL ts (j - 1)) = r ∧ postA rs ts i j = [⟨r, i, j - 1, 0, 0, 1⟩] ∧ r < rs.length := by
  unfold postB at h
  rw [Bool.and_eq_true] at h
  obtain ⟨r, hr⟩ := Option.isSome_iff_exists.1 h.1
  refine ⟨r, findI_some hr, ?_, ?_⟩
  · unfold postA; rw [hr]; exact if_pos (of_decide_eq_true h.2)
  · obtain ⟨x, hx, _⟩ := find_some hr; exact (List.getElem?_eq_some_iff.1 hx).1
theorem post_no {rs : List Rul} {ts : List ByteArray} {i j : Nat} (h : postB rs ts i j = false) : postA rs ts i j = [] := by
  unfold postB at h
  unfold postA
  cases hr : findR rs 3 (tokL ts (j - 1)) with
  | none => rfl
  | some r =>
    rw [hr] at h
    exact if_neg (of_decide_eq_false (by simpa using h))
theorem in_yes {rs : List Rul} {ts : List ByteArray} {i j k : Nat} (h : inB_ rs ts j k = true) : ∃ r : Nat, findI rs 1 (tokL ts k) = r ∧ inA rs ts i j k = [⟨r, i, k, k + 1, j, 2⟩] ∧ r < rs.length := by
  unfold inB_ at h
  rw [Bool.and_eq_true] at h
  obtain ⟨r, hr⟩ := Option.isSome_iff_exists.1 h.1
  refine ⟨r, findI_some hr, ?_, ?_⟩
  · unfold inA; rw [hr]; exact if_pos (of_decide_eq_true h.2)
  · obtain ⟨x, hx, _⟩ := find_some hr; exact (List.getElem?_eq_some_iff.1 hx).1
theorem in_no {rs : List Rul} {ts : List ByteArray} {i j k : Nat} (h : inB_ rs ts j k = false) : inA rs ts i j k = [] := by
  unfold inB_ at h
  unfold inA
  cases hr : findR rs 1 (tokL ts k) with
  | none => rfl
  | some r =>
    rw [hr] at h
    exact if_neg (of_decide_eq_false (by simpa using h))
theorem find_test {rs : List Rul} {kind : Int} {s : List UInt8} : decide (0 ≤ findI rs kind s) = (findR rs kind s).isSome := by
  cases h : findR rs kind s with
  | none => rw [findI_none h]; rfl
  | some r => rw [findI_some h]; exact decide_eq_true (by omega)
def midL (rs : List Rul) (ts : List ByteArray) (i j k : Nat) : List App := preA rs ts i j ++ postA rs ts i j ++ (List.range' (i + 1) (k - (i + 1))).flatMap (midA rs ts i j)
theorem midL_succ {rs : List Rul} {ts : List ByteArray} {i j k : Nat} (h : i < k) : midL rs ts i j (k + 1) = midL rs ts i j k ++ (inA rs ts i j k ++ juxA rs i j k) := by
  unfold midL
  rw [show k + 1 - (i + 1) = (k - (i + 1)) + 1 by omega, List.range'_concat, List.flatMap_append, List.append_assoc (preA rs ts i j ++ postA rs ts i j)]
  congr 1
  rw [show i + 1 + 1 * (k - (i + 1)) = k by omega]
  simp [midA]
theorem midL_rest {rs : List Rul} {ts : List ByteArray} {i j k : Nat} (h : i < k) (hk : k < j) : appsR rs ts i j = midL rs ts i j k ++ (inA rs ts i j k ++ juxA rs i j k) ++ (List.range' (k + 1) (j - (k + 1))).flatMap (midA rs ts i j) := by
  rw [← midL_succ h]
  unfold appsR midL
  rw [List.append_assoc (preA rs ts i j ++ postA rs ts i j), ← List.flatMap_append, show k + 1 - (i + 1) = k - i by omega]
  congr 2
  rw [show List.range' (k + 1) (j - (k + 1)) = List.range' (i + 1 + 1 * (k - i)) (j - (k + 1)) by rw [show i + 1 + 1 * (k - i) = k + 1 by omega], List.range'_append]
  congr 1
  omega
set_option maxRecDepth 100000 in
set_option maxHeartbeats 1600000 in
theorem apps_any (fid : FuncId) (caps : Array Value) (F : Fin) (rs : List Rul) (ts : List ByteArray) (i j : Nat) (Inv : List App → World → Prop) (w : World) (hij : i < j) (hj : j ≤ ts.length) (hm : ts.length ≤ 1000000)
    (hF : ∀ l w, Inv l w → FinAt w F rs ts) (hK : ∀ l w w', Inv l w → Below w.heap.size w w' → Inv l w') (hV : Visits fid caps rs ts i j Inv) (h0 : Inv [] w) (hcf : ∀ args w, Sem.run Tryz.prog (callFunc fid args) w = .ok (.enter fid args) w) :
    Calls Tryz.prog 145 #[.agg (F.c rs.length ts.length (findI rs 4 [])), .int .i64 i, .int .i64 j, .func (.func fid) #[] caps] w fun e w' => e = .returned undef ∧ Inv (appsR rs ts i j) w' := by
  obtain ⟨R, cR, T, cT, I, cI, P, cP, Q, cQ⟩ := F
  have HV := Lib.hid hV
  have HK := Lib.hid hK
  have HF := Lib.hid hF
  have HI := Lib.hid (hK _ _ _ h0 (bel_alloc w (.cells #[.slice R rs.length cR, .slice T ts.length cT, .slice I ts.length cI, .slice P ts.length cP, .slice Q ts.length cQ, .int .i64 (findI rs 4 [])] 167)))
  have K0 := Lib.hid (Blk.new w 167 #[.slice R rs.length cR, .slice T ts.length cT, .slice I ts.length cI, .slice P ts.length cP, .slice Q ts.length cQ, .int .i64 (findI rs 4 [])])
  clear hV hK hF h0
  have hF0 := HF.out _ _ HI.out
  obtain ⟨gp, hp, cp⟩ := hF0.pre.num (finds_at (rs := rs) (kind := 2) (show i < ts.length by omega))
  obtain ⟨gq, hq, cq⟩ := hF0.post.num (finds_at (rs := rs) (kind := 3) (show j - 1 < ts.length by omega))
  obtain ⟨gi, hi, _⟩ := hF0.inf.num (finds_at (rs := rs) (kind := 1) (show i < ts.length by omega))
  dsimp only at hp hq hi
  subst hp hq hi
  clear hF0 cq
  have HP := Lib.hid (find_test (rs := rs) (kind := 2) (s := tokL ts i))
  have hil : (i : Int) < (ts.length : Int) := by omega
  go_enter Tryz.func145, Tryz.ntmps145
  go_upto_region 2 with (fail)
  generalize w.alloc (.cells _ 167) = w1 at *
  go_cut [24] (fun b wc => b = .bool (preB rs ts i j) ∧ wc = w1)
  case first =>
    cases hs : (findR rs 2 (tokL ts i)).isSome
    · have q0 := HP.out.trans hs
      have HB := Lib.hid (show preB rs ts i j = false by unfold preB; rw [hs]; rfl)
      clear hs cp
      generalize findI rs 2 (tokL ts i) = x at *
      go_wp2_with fail
      go_meet
      exact ⟨by rw [HB.out], rfl⟩
    · have q0 := HP.out.trans hs
      have HB := Lib.hid (show preB rs ts i j = decide (i + 1 < j) by unfold preB; rw [hs]; rfl)
      clear hs cp
      generalize findI rs 2 (tokL ts i) = x at *
      have HD := Lib.hid (show decide ((i : Int) + 1 < (j : Int)) = decide (i + 1 < j) from decide_eq_decide.2 (by omega))
      go_wp2_with fail
      go_meet
      exact ⟨by rw [HB.out, ← HD.out], rfl⟩
  case rest =>
    obtain ⟨rfl, hw⟩ := hcut
    subst hw
    go_upto_if 24 with (fail)
    go_cut [8] (fun _ wc => Hid (Inv (preA rs ts i j) wc) ∧ Hid (Blk wc w.heap.size 167 #[.slice R rs.length cR, .slice T ts.length cT, .slice (some ⟨gi, 0, none⟩) ts.length cI, .slice (some ⟨gp, 0, none⟩) ts.length cP, .slice (some ⟨gq, 0, none⟩) ts.length cQ, .int .i64 (findI rs 4 [])]))
    case first =>
      cases hb : preB rs ts i j
      · have HN := Lib.hid (pre_no hb)
        clear hb
        go_wp2_with fail
        go_meet
        exact ⟨by rw [HN.out]; exact HI, K0⟩
      · obtain ⟨r, hr, hA, hrl⟩ := pre_yes hb
        have HN := Lib.hid hA
        clear hb hA
        rw [hr]
        clear hr cp
        go_wp2_with fail
        have h := HV.out [] ⟨r, i + 1, j, 0, 0, 1⟩ (postA rs ts i j ++ (List.range' (i + 1) (j - (i + 1))).flatMap (midA rs ts i j)) wc (by unfold appsR; rw [HN.out, List.append_assoc]; rfl) HI.out
        refine h.mono ?_
        clear h
        rintro e w2 ⟨rfl, hi2, hk2⟩
        have HI := Lib.hid hi2
        have K0 := Lib.hid (hk2 _ _ K0.out)
        clear hi2 hk2
        go_wp2_with fail
        go_meet
        exact ⟨by rw [HN.out]; exact HI, K0⟩
    case rest =>
      clear HI K0 cp HP
      obtain ⟨HI, K0⟩ := hcut
      have hF0 := HF.out _ _ HI.out
      obtain ⟨gq', hq, cq⟩ := hF0.post.num (finds_at (rs := rs) (kind := 3) (show j - 1 < ts.length by omega))
      obtain rfl : gq = gq' := by simpa using hq
      clear hF0 hq
      have HP := Lib.hid (find_test (rs := rs) (kind := 3) (s := tokL ts (j - 1)))
      have hj1 : ((j - 1 : Nat) : Int) = (j : Int) - 1 := by omega
      have hj2 : (0 : Int) ≤ (j : Int) - 1 := by omega
      have hj3 : (j : Int) - 1 < (ts.length : Int) := by omega
      have hj4 : ((j : Int) - 1).toNat = j - 1 := by omega
      have c4 := K0.out.cell 4
      go_upto_region 5 with (fail)
      clear c4
      generalize hw2 : wc = w2 at *
      clear hw2 hj1 hj2 hj3 hj4
      go_cut [45] (fun b wc => b = .bool (postB rs ts i j) ∧ wc = w2)
      case first =>
        cases hs : (findR rs 3 (tokL ts (j - 1))).isSome
        · have q0 := HP.out.trans hs
          have HB := Lib.hid (show postB rs ts i j = false by unfold postB; rw [hs]; rfl)
          clear hs cq
          generalize findI rs 3 (tokL ts (j - 1)) = x at *
          go_wp2_with fail
          go_meet
          exact ⟨by rw [HB.out], rfl⟩
        · have q0 := HP.out.trans hs
          have HB := Lib.hid (show postB rs ts i j = decide (i + 1 < j) by unfold postB; rw [hs]; rfl)
          clear hs cq
          generalize findI rs 3 (tokL ts (j - 1)) = x at *
          have HD := Lib.hid (show decide ((i : Int) < (j : Int) - 1) = decide (i + 1 < j) from decide_eq_decide.2 (by omega))
          go_wp2_with fail
          go_meet
          exact ⟨by rw [HB.out, ← HD.out], rfl⟩
      case rest =>
        obtain ⟨rfl, hw⟩ := hcut
        subst hw
        go_upto_if 45 with (fail)
        go_cut [9] (fun _ wc => Hid (Inv (preA rs ts i j ++ postA rs ts i j) wc) ∧ Hid (Blk wc w.heap.size 167 #[.slice R rs.length cR, .slice T ts.length cT, .slice (some ⟨gi, 0, none⟩) ts.length cI, .slice (some ⟨gp, 0, none⟩) ts.length cP, .slice (some ⟨gq, 0, none⟩) ts.length cQ, .int .i64 (findI rs 4 [])]))
        case first =>
          cases hb : postB rs ts i j
          · have HN := Lib.hid (post_no hb)
            clear hb
            go_wp2_with fail
            go_meet
            exact ⟨by rw [HN.out, List.append_nil]; exact HI, K0⟩
          · obtain ⟨r, hr, hA, hrl⟩ := post_yes hb
            have HN := Lib.hid hA
            clear hb hA
            rw [hr]
            clear hr cq
            go_wp2_with fail
            have h := HV.out (preA rs ts i j) ⟨r, i, j - 1, 0, 0, 1⟩ ((List.range' (i + 1) (j - (i + 1))).flatMap (midA rs ts i j)) wc (by unfold appsR; rw [HN.out, List.append_assoc]; rfl) HI.out
            rw [show App.c ⟨r, i, j - 1, 0, 0, 1⟩ = #[.int .i64 r, .int .i64 i, .int .i64 ((j : Int) - 1), .int .i64 0, .int .i64 0, .int .i64 1] by show #[_, _, Value.int .i64 ((j - 1 : Nat) : Int), _, _, _] = _; rw [show ((j - 1 : Nat) : Int) = (j : Int) - 1 by omega]; rfl] at h
            refine h.mono ?_
            clear h
            rintro e w3 ⟨rfl, hi2, hk2⟩
            have HI := Lib.hid hi2
            have K0 := Lib.hid (hk2 _ _ K0.out)
            clear hi2 hk2
            go_wp2_with fail
            go_meet
            exact ⟨by rw [HN.out]; exact HI, K0⟩
        case rest =>
          clear HI K0 cq HP
          obtain ⟨HI, K0⟩ := hcut
          have HI : Hid (Inv (midL rs ts i j (i + 1)) wc) := by
            rw [show midL rs ts i j (i + 1) = preA rs ts i j ++ postA rs ts i j by unfold midL; rw [Nat.sub_self]; exact List.append_nil _]
            exact HI
          go_wp2_with fail
          go_loopw [10] (fun k wr => ∃ n : Nat, i < n ∧ n ≤ j ∧ k = .int .i64 n ∧ Hid (Inv (midL rs ts i j n) wr) ∧ Hid (Blk wr w.heap.size 167 #[.slice R rs.length cR, .slice T ts.length cT, .slice (some ⟨gi, 0, none⟩) ts.length cI, .slice (some ⟨gp, 0, none⟩) ts.length cP, .slice (some ⟨gq, 0, none⟩) ts.length cQ, .int .i64 (findI rs 4 [])])) (fun k _ => j - (intOf k).toNat)
          case atStart => exact ⟨i + 1, by omega, by omega, by go_num, HI, K0⟩
          case round =>
            clear HI K0
            obtain ⟨k, hik, hkj, rfl, HI, K0⟩ := hrel
            by_cases hlt : k < j
            · have HR := Lib.hid (midL_rest (rs := rs) (ts := ts) hik hlt)
              have HSC := Lib.hid (midL_succ (rs := rs) (ts := ts) (j := j) hik)
              have hF0 := HF.out _ _ HI.out
              obtain ⟨gi', hi, ci⟩ := hF0.inf.num (finds_at (rs := rs) (kind := 1) (show k < ts.length by omega))
              obtain rfl : gi = gi' := by simpa using hi
              clear hF0 hi
              have HP := Lib.hid (find_test (rs := rs) (kind := 1) (s := tokL ts k))
              have c2 := K0.out.cell 2
              have hkn : (k : Int) < (ts.length : Int) := by omega
              go_upto_region 11 with (fail)
              clear c2 hkn
              go_cut [72] (fun b wc => b = .bool (inB_ rs ts j k) ∧ wc = wr)
              case first =>
                cases hs : (findR rs 1 (tokL ts k)).isSome
                · have q0 := HP.out.trans hs
                  have HB := Lib.hid (show inB_ rs ts j k = false by unfold inB_; rw [hs]; rfl)
                  clear hs ci
                  generalize findI rs 1 (tokL ts k) = x at *
                  go_wp2_with fail
                  go_meet
                  exact ⟨by rw [HB.out], rfl⟩
                · have q0 := HP.out.trans hs
                  have HB := Lib.hid (show inB_ rs ts j k = decide (k + 1 < j) by unfold inB_; rw [hs]; rfl)
                  clear hs ci
                  generalize findI rs 1 (tokL ts k) = x at *
                  have HD := Lib.hid (show decide ((k : Int) < (j : Int) - 1) = decide (k + 1 < j) from decide_eq_decide.2 (by omega))
                  go_wp2_with fail
                  go_meet
                  exact ⟨by rw [HB.out, ← HD.out], rfl⟩
              case rest =>
                obtain ⟨rfl, hw⟩ := hcut
                subst hw
                go_upto_if 72 with (fail)
                go_cut [11] (fun _ wc => Hid (Inv (midL rs ts i j k ++ inA rs ts i j k) wc) ∧ Hid (Blk wc w.heap.size 167 #[.slice R rs.length cR, .slice T ts.length cT, .slice (some ⟨gi, 0, none⟩) ts.length cI, .slice (some ⟨gp, 0, none⟩) ts.length cP, .slice (some ⟨gq, 0, none⟩) ts.length cQ, .int .i64 (findI rs 4 [])]))
                case first =>
                  cases hb : inB_ rs ts j k
                  · have HN := Lib.hid (in_no (i := i) hb)
                    clear hb
                    go_wp2_with fail
                    go_meet
                    exact ⟨by rw [HN.out, List.append_nil]; exact HI, K0⟩
                  · obtain ⟨r, hr, hA, hrl⟩ := in_yes (i := i) hb
                    have HN := Lib.hid hA
                    clear hb hA
                    rw [hr]
                    clear hr ci
                    go_wp2_with fail
                    have h := HV.out (midL rs ts i j k) ⟨r, i, k, k + 1, j, 2⟩ (juxA rs i j k ++ (List.range' (k + 1) (j - (k + 1))).flatMap (midA rs ts i j)) wc (by rw [HR.out, HN.out]; simp) HI.out
                    refine h.mono ?_
                    clear h
                    rintro e w3 ⟨rfl, hi2, hk2⟩
                    have HI := Lib.hid hi2
                    have K0 := Lib.hid (hk2 _ _ K0.out)
                    clear hi2 hk2
                    go_wp2_with fail
                    go_meet
                    exact ⟨by rw [HN.out]; exact HI, K0⟩
                case rest =>
                  clear HI K0 ci HP
                  obtain ⟨HI, K0⟩ := hcut
                  have c5 := K0.out.cell 5
                  cases hj4 : findR rs 4 [] with
                  | none =>
                    have HN := Lib.hid (show juxA rs i j k = [] by unfold juxA; rw [hj4])
                    have hx := findI_none hj4
                    clear hj4
                    rw [hx] at c5
                    clear hx
                    have NI := Lib.hid (show Inv (midL rs ts i j (k + 1)) wc by rw [HSC.out, HN.out, List.append_nil]; exact HI.out)
                    clear HI
                    go_wp2_with fail
                    go_roundw
                    case rel => exact ⟨k + 1, by omega, by omega, by go_num, NI, K0⟩
                    case measure => simp [intOf]; omega
                  | some r =>
                    have HN := Lib.hid (show juxA rs i j k = [⟨r, i, k, k, j, 2⟩] by unfold juxA; rw [hj4])
                    have hx := findI_some hj4
                    clear hj4
                    rw [hx] at c5
                    clear hx
                    go_wp2_with fail
                    have h := HV.out (midL rs ts i j k ++ inA rs ts i j k) ⟨r, i, k, k, j, 2⟩ ((List.range' (k + 1) (j - (k + 1))).flatMap (midA rs ts i j)) wc (by rw [HR.out, HN.out]; simp) HI.out
                    refine h.mono ?_
                    clear h c5
                    rintro e w3 ⟨rfl, hi2, hk2⟩
                    have NI := Lib.hid (show Inv (midL rs ts i j (k + 1)) w3 by rw [HSC.out, HN.out, ← List.append_assoc]; exact hi2)
                    have K0 := Lib.hid (hk2 _ _ K0.out)
                    clear hi2 hk2 HI
                    go_wp2_with fail
                    go_roundw
                    case rel => exact ⟨k + 1, by omega, by omega, by go_num, NI, K0⟩
                    case measure => simp [intOf]; omega
            · obtain rfl : k = j := by omega
              go_wp2_with fail
              go_end0
              exact ⟨rfl, by rw [show appsR rs ts i k = midL rs ts i k k from rfl]; exact HI.out⟩
end Go.Proofs.YthpioplpfmlgcaaGreatDoor.Ch
