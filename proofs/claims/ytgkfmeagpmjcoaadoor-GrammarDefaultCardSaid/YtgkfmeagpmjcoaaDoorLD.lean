/- GrammarDefault returns true: the walk of the statement. -/
import Derived.Test.YtgkfmeagpmjcoaaDoorT1
import Derived.Test.YtgkfmeagpmjcoaaDoorD0
import Derived.Laws.AppendOwnNone
namespace Go.Proofs.YtgkfmeagpmjcoaaDoor
open Go.RowKit
def ownB2 (r : Rul) : Bool := namedB r.nam.data.toList && (inR r.prec 1 100 && (inR r.left 0 101 && (inR r.right 0 101 &&
  (if r.kind = 1 then symB r.sym.data.toList else if r.kind = 2 then symB r.sym.data.toList && decide (r.left = 0) else if r.kind = 3 then symB r.sym.data.toList && decide (r.right = 0) else decide (r.kind = 4) && r.sym.data.toList.isEmpty))))
def clashB2 (o r : Rul) : Bool := decide (o.kind = r.kind) && (o.sym.data.toList == r.sym.data.toList || o.nam.data.toList == r.nam.data.toList)
def firstsB2 (rs : List Rul) : Nat → Bool
  | 0 => true
  | k + 1 => firstsB2 rs k && (match rs[k]? with
    | some r => ownB2 r && !(rs.take k).any fun o => clashB2 o r
    | none => true)
theorem own_two (r : Rul) : ownB r = ownB2 r := by unfold ownB ownB2; simp only [ByteArray.toList_eq]
theorem clash_two (o r : Rul) : clashB o r = clashB2 o r := by unfold clashB clashB2; simp only [ByteArray.toList_eq]
theorem firsts_two (rs : List Rul) : ∀ n, firstsB rs n = firstsB2 rs n
  | 0 => rfl
  | k + 1 => by
    rw [firstsB, firstsB2, firsts_two rs k]
    congr 1
    cases rs[k]? with
    | none => rfl
    | some r => simp only [own_two, freshB, clash_two]
theorem dRs_valid : validB dRs = true := by
  unfold validB
  rw [firsts_two]
  decide +kernel
theorem parse_default (s : ByteArray) (w : World) (hG : Glb w) (hs : s.data.toList = textOf dRs) : Calls Tryd.prog 20 #[.string s] w (ParseP (dRs, 0, 0) w) := by
  have hl : s.size = s.data.toList.length := by simp
  have hb := text_bound dRs_valid dRs.length
  rw [List.take_length] at hb
  have := parse_any s w hG (by rw [hl, hs]; omega)
  rw [hs, parse_text dRs_valid] at this
  exact this
set_option maxRecDepth 100000 in
set_option maxHeartbeats 800000 in
theorem default_any (w : World) (hG : Glb w) : Calls Tryd.prog 24 #[] w fun e w' => ∃ v, e = .returned v ∧ OwnRuls w' w.heap.size v dRs ∧ Below w.heap.size w w' := by
  have HG := Lib.hid hG
  clear hG
  go_enter Tryd.func24, Tryd.ntmps24
  go_wp2_with fail
  refine (parse_default _ w HG.out (by kernel_rfl)).mono ?_
  rintro e w1 ⟨v, rfl, hO, hb⟩
  have HO := Lib.hid hO
  have HB := Lib.hid hb
  clear hO hb
  go_wp2_with fail
  go_ret
  exact ⟨_, rfl, HO.out, HB.out⟩
theorem cellsR_one : ∀ (rs : List Rul), ∀ u ∈ cellsR rs, u.oneCell' = true := by
  intro rs u hu
  simp only [cellsR, List.mem_flatMap] at hu
  obtain ⟨r, _, h⟩ := hu
  simp at h
  rcases h with rfl | rfl | rfl | rfl | rfl | rfl <;> rfl
theorem cellsR_len (rs : List Rul) : (cellsR rs).length = rs.length * 6 := by
  induction rs with
  | nil => rfl
  | cons r rs ih => rw [show cellsR (r :: rs) = r.c.toList ++ cellsR rs from by simp [cellsR], List.length_append, ih]; simp; omega
theorem RulsAt.flat {w : World} {ad : Addr} {rs : List Rul} (h : RulsAt w (some ad) rs) : ∀ j u, (cellsR rs)[j]? = some u → w.cell? (ad.add j) = some u := by
  intro j u hj
  have hjl : j < (cellsR rs).length := (List.getElem?_eq_some_iff.1 hj).1
  rw [cellsR_len] at hjl
  have hk : j / 6 < rs.length := by omega
  obtain ⟨r, hr⟩ : ∃ r, rs[j / 6]? = some r := ⟨_, List.getElem?_eq_getElem hk⟩
  obtain ⟨_, ad', he, _, hc⟩ := h _ r hr
  obtain rfl := Option.some.inj he
  have h6 : j % 6 < r.c.size := by simp; omega
  have hv : r.c[j % 6]? = some r.c[j % 6] := Array.getElem?_eq_getElem h6
  have h1 := cellsR_at rs (j / 6) (j % 6) r _ hr hv
  rw [show j / 6 * 6 + j % 6 = j by omega, hj] at h1
  have h2 := hc (j % 6) _ hv
  rw [show j / 6 * 6 + j % 6 = j by omega] at h2
  rw [h2, h1]
theorem RulsAt.fit {w : World} {A : Option Addr} {rs : List Rul} (h : RulsAt w A rs) : ∀ r ∈ rs, r.fits := fun r hr => by
  obtain ⟨k, hk⟩ := List.mem_iff_getElem?.1 hr
  exact (h k r hk).1
theorem RulsAt.nil {w : World} {rs : List Rul} (h : RulsAt w none rs) : rs = [] := by
  cases rs with
  | nil => rfl
  | cons r rs =>
    obtain ⟨_, ad, he, _⟩ := h 0 r rfl
    cases he
theorem dRs_len : dRs.length = 29 := by decide
theorem own_empty (w : World) (B : Nat) (hB : B ≤ w.heap.size) : (w.alloc (.cells #[] 39)).ownsRow B 39 6 (.slice (some ⟨w.heap.size, 0, none⟩) 0 0) 0 (cellsR []) :=
  ⟨by simp [cellsR], .inr ⟨w.heap.size, 0, #[], rfl, hB, Blk.new w 39 #[], Nat.le_refl _, by unfold maxLen; omega, by simp, by simp [cellsR]⟩⟩
set_option maxRecDepth 100000 in
set_option maxHeartbeats 800000 in
theorem default_walk (A : Option Addr) (cap : Nat) (rs : List Rul) (w : World) (hG : Glb w) (hR : RulsAt w A rs) (hc : rs.length ≤ cap) (hcap : cap ≤ 9223372036854775807) (hnil : A = none → cap = 0) : Calls Tryd.prog 8 #[.slice A rs.length cap] w fun e w' => e = .returned (.bool true) ∧ Below w.heap.size w w' := by
  obtain ⟨i0, hi, hz0, hz1, hz2⟩ := info_parts info_rul
  have HG := Lib.hid hG
  have HR := Lib.hid hR
  have HNIL := Lib.hid hnil
  clear hG hR hnil
  go_enter Tryd.func8, Tryd.ntmps8
  go_wp2_with fail
  refine (awake_any w HG.out.tab).mono ?_
  rintro e w1 ⟨rfl, hb⟩
  have H1 := Lib.hid hb
  clear hb
  go_wp2_with fail
  refine (short_any A cap rs w1 (HR.out.keep H1.out) (by omega)).mono ?_
  rintro e w1' ⟨rfl, rfl⟩
  cases hs : shortB rs
  · clear hs
    go_wp2_with fail
    go_ret
    exact ⟨rfl, H1.out⟩
  · have hl := short_len hs
    clear hs
    go_wp2_with fail
    refine (default_any w1 (HG.out.keep H1.out)).mono ?_
    rintro e w2 ⟨v, rfl, hO, hb⟩
    have H2 := Lib.hid (H1.out.trans (hb.mono H1.out.size))
    have HO := Lib.hid hO
    clear hb hO
    obtain ⟨A2, cap2, rfl, hcl2, hcap2, hR2⟩ := HO.out.form
    obtain ⟨r0, hr0⟩ : ∃ r0, dRs[0]? = some r0 := ⟨_, rfl⟩
    obtain ⟨_, ad2, rfl, _, _⟩ := hR2 0 r0 hr0
    rw [dRs_len] at hcl2 ⊢
    have HR2 := Lib.hid hR2
    clear hR2 hr0
    have hE := own_empty w2 w2.heap.size (Nat.le_refl _)
    have HA2 := Lib.hid ((HR2.out.alloc (.cells #[] 39)).flat)
    go_wp2_with (at_builtin; refine wpList_append_own _ rfl (.tmp 11) (.tmp 12) 22 rfl w2.heap.size 39 i0 zeroR.v 6 64 Tryd.underlying22 hi hz0 hz1 hz2 rfl (by decide) _ _ _ rfl hE ad2 29 cap2 (cellsR dRs) rfl rfl ?c1a ?c2a ?c3a ?c4a ?c5a ?_)
    case c1a => exact HA2.out
    case c2a => exact cellsR_one dRs
    case c3a => unfold maxLen; omega
    case c4a => omega
    case c5a => simp
    intro v3 w3 hown3 hgrow3 hn3
    have hsz2 := H2.out.size
    have B3 := Lib.hid ((bel_alloc w2 (.cells #[] 39)).grown hgrow3 (by simp) (fun k hk => by simp [Value.ownBlock] at hk; omega))
    have H3 := Lib.hid (H2.out.trans (B3.out.mono H2.out.size))
    have HR0 := HR2
    have HR2 := Lib.hid (HR2.out.keep B3.out)
    rw [show cellsR [] ++ cellsR dRs = cellsR dRs from rfl] at hown3
    have hsz3 := B3.out.size
    clear hgrow3 hn3 hE HA2
    have HRK := Lib.hid (HR.out.keep H3.out)
    cases A with
    | none =>
      obtain rfl : rs = [] := HRK.out.nil
      obtain rfl : cap = 0 := HNIL.out rfl
      go_wp2_with (at_builtin; refine wpList_append_own_none rfl (.tmp 13) (.tmp 14) 22 rfl w2.heap.size 39 i0 6 Tryd.underlying22 hi _ _ _ rfl hown3 rfl ?_)
      have NO := Lib.hid (show OwnRuls w3 w2.heap.size v3 (dRs ++ []) from ⟨by rw [List.append_nil, dRs_len]; exact hown3, by rw [List.append_nil]; exact HO.out.2⟩)
      have NB := H3
      have NR2 := HR2
      clear hown3
      obtain ⟨al, hal⟩ : ∃ al, al = dRs ++ [] := ⟨_, rfl⟩
      rw [← hal] at NO
      have hl5 : al.length ≤ 1000 := by rw [hal, List.length_append, dRs_len]; simp
      clear hal
      obtain ⟨A5, cap5, rfl, hcl5, hcap5, hR5⟩ := NO.out.form
      have HR5 := Lib.hid hR5
      clear hR5 NO
      go_wp2_with fail
      refine (rdefault_any _).mono ?_
      rintro e w5 ⟨v6, rfl, hO6, hb⟩
      have H5 := Lib.hid (NB.out.trans (hb.mono NB.out.size))
      have HR5 := Lib.hid (HR5.out.keep hb)
      have NR2 := Lib.hid (NR2.out.keep hb)
      obtain ⟨A6, cap6, rfl, hcl6, hcap6, hR6⟩ := hO6.form
      have HR6 := Lib.hid hR6
      clear hb hO6 hR6
      rw [dRs_len] at hcl6 ⊢
      go_wp2_with fail
      have hsame := same_any (some ad2) A6 cap2 cap6 dRs w5 NR2.out HR6.out (by rw [dRs_len]; omega)
      rw [dRs_len] at hsame
      refine hsame.mono ?_
      clear hsame
      rintro e w6 ⟨rfl, k6, rfl⟩
      have H6 := Lib.hid (below_drewN H5.out k6)
      have HR5 := Lib.hid (show RulsAt (w5.drewN k6) A5 _ from HR5.out)
      have NR2 := Lib.hid (show RulsAt (w5.drewN k6) (some ad2) dRs from NR2.out)
      generalize w5.drewN k6 = w6 at *
      clear HR6 H5
      go_wp2_with fail
      have hval := valid_any (some ad2) cap2 dRs w6 NR2.out (by rw [dRs_len]; exact hcl2) hcap2
      rw [dRs_len, dRs_valid] at hval
      refine hval.mono ?_
      clear hval
      rintro e w7 ⟨rfl, hb⟩
      have H7 := Lib.hid (H6.out.trans (hb.mono H6.out.size))
      have HR5 := Lib.hid (HR5.out.keep hb)
      clear hb
      go_wp2_with fail
      refine (valid_any A5 cap5 al w7 HR5.out hcl5 hcap5).mono ?_
      rintro e w8 ⟨rfl, hb⟩
      have H8 := Lib.hid (H7.out.trans (hb.mono H7.out.size))
      have HR5 := Lib.hid (HR5.out.keep hb)
      clear hb
      generalize hvb : validB al = vb
      have HVB := Lib.hid hvb
      clear hvb
      go_wp2_with fail
      refine (rvalid_any A5 cap5 al w8 HR5.out (by omega)).mono ?_
      rintro e w9 ⟨rfl, hb⟩
      have H9 := Lib.hid (H8.out.trans (hb.mono H8.out.size))
      clear hb
      rw [HVB.out]
      go_wp2_with fail
      go_ret
      exact ⟨ret_bool (by cases vb <;> rfl), H9.out⟩
    | some ad =>
      have HA3 := Lib.hid HRK.out.flat
      have hHl : (cellsR rs).length = rs.length * 6 := cellsR_len rs
      have HHL := Lib.hid hHl
      clear hHl
      have HBL := Lib.hid hown3.lt
      go_wp2_with (at_builtin; refine wpList_append_own _ rfl (.tmp 13) (.tmp 14) 22 rfl w2.heap.size 39 i0 zeroR.v 6 64 Tryd.underlying22 hi hz0 hz1 hz2 rfl (by decide) _ _ _ rfl hown3 ad rs.length cap (cellsR rs) rfl HHL.out ?d1a ?d2a ?d3a ?d4a ?d5a ?_)
      case d1a => exact HA3.out
      case d2a => exact cellsR_one rs
      case d3a => unfold maxLen; omega
      case d4a => omega
      case d5a => omega
      intro v4 w4 hown4 hgrow4 hn4
      have B4 := Lib.hid (B3.out.grown hgrow4 (by omega) (fun k hk => (HBL.out k hk).1))
      have NB := Lib.hid (H2.out.trans (B4.out.mono H2.out.size))
      have NO := Lib.hid (show OwnRuls w4 w2.heap.size v4 (dRs ++ rs) from ⟨by rw [List.length_append, dRs_len, show cellsR (dRs ++ rs) = cellsR dRs ++ cellsR rs from by simp [cellsR]]; exact hown4, fun r hr => by
        rcases List.mem_append.1 hr with h | h
        · exact HO.out.2 r h
        · exact HRK.out.fit r h⟩)
      have NR2 := Lib.hid (show RulsAt w4 (some ad2) dRs from (HR0.out.keep B4.out))
      clear hown4 hgrow4 hn4 hown3
      obtain ⟨al, hal⟩ : ∃ al, al = dRs ++ rs := ⟨_, rfl⟩
      rw [← hal] at NO
      have hl5 : al.length ≤ 1000 := by rw [hal, List.length_append, dRs_len]; omega
      clear hal
      obtain ⟨A5, cap5, rfl, hcl5, hcap5, hR5⟩ := NO.out.form
      have HR5 := Lib.hid hR5
      clear hR5 NO
      go_wp2_with fail
      refine (rdefault_any _).mono ?_
      rintro e w5 ⟨v6, rfl, hO6, hb⟩
      have H5 := Lib.hid (NB.out.trans (hb.mono NB.out.size))
      have HR5 := Lib.hid (HR5.out.keep hb)
      have NR2 := Lib.hid (NR2.out.keep hb)
      obtain ⟨A6, cap6, rfl, hcl6, hcap6, hR6⟩ := hO6.form
      have HR6 := Lib.hid hR6
      clear hb hO6 hR6
      rw [dRs_len] at hcl6 ⊢
      go_wp2_with fail
      have hsame := same_any (some ad2) A6 cap2 cap6 dRs w5 NR2.out HR6.out (by rw [dRs_len]; omega)
      rw [dRs_len] at hsame
      refine hsame.mono ?_
      clear hsame
      rintro e w6 ⟨rfl, k6, rfl⟩
      have H6 := Lib.hid (below_drewN H5.out k6)
      have HR5 := Lib.hid (show RulsAt (w5.drewN k6) A5 _ from HR5.out)
      have NR2 := Lib.hid (show RulsAt (w5.drewN k6) (some ad2) dRs from NR2.out)
      generalize w5.drewN k6 = w6 at *
      clear HR6 H5
      go_wp2_with fail
      have hval := valid_any (some ad2) cap2 dRs w6 NR2.out (by rw [dRs_len]; exact hcl2) hcap2
      rw [dRs_len, dRs_valid] at hval
      refine hval.mono ?_
      clear hval
      rintro e w7 ⟨rfl, hb⟩
      have H7 := Lib.hid (H6.out.trans (hb.mono H6.out.size))
      have HR5 := Lib.hid (HR5.out.keep hb)
      clear hb
      go_wp2_with fail
      refine (valid_any A5 cap5 al w7 HR5.out hcl5 hcap5).mono ?_
      rintro e w8 ⟨rfl, hb⟩
      have H8 := Lib.hid (H7.out.trans (hb.mono H7.out.size))
      have HR5 := Lib.hid (HR5.out.keep hb)
      clear hb
      generalize hvb : validB al = vb
      have HVB := Lib.hid hvb
      clear hvb
      go_wp2_with fail
      refine (rvalid_any A5 cap5 al w8 HR5.out (by omega)).mono ?_
      rintro e w9 ⟨rfl, hb⟩
      have H9 := Lib.hid (H8.out.trans (hb.mono H8.out.size))
      clear hb
      rw [HVB.out]
      go_wp2_with fail
      go_ret
      exact ⟨ret_bool (by cases vb <;> rfl), H9.out⟩
end Go.Proofs.YtgkfmeagpmjcoaaDoor
