/- Read: the first two readings. -/
import Derived.Test.YtmhddlhlniajpaaVT
import Derived.Test.YtmhddlhlniajpaaTF
namespace Go.Proofs.Ytmhddlhlniajpaa
open Go.RowKit
def readL (rs : List Rul) (ts : List ByteArray) : List Rd := if validB rs && toksB ts then (allR rs ts 0 ts.length).take 2 else []
def okI (rs : List Rul) (ts : List ByteArray) : Int := if validB rs && toksB ts then 0 else 1
theorem read_first {rs : List Rul} (hv : validB rs = true) {ts : List ByteArray} (ht : toksB ts = true) : readL rs ts = firstR rs ts 0 ts.length 0 := by
  unfold readL firstR
  rw [hv, ht, Bool.and_self, if_pos rfl]
  congr 1
  unfold leastR
  rw [List.filter_eq_self.2 fun x hx => decide_eq_true (prec_nonneg hv hx).1]
theorem read_len {rs : List Rul} {ts : List ByteArray} : (readL rs ts).length ≤ 2 := by
  unfold readL
  split
  · rw [List.length_take]; omega
  · simp
theorem read_bad {rs : List Rul} {ts : List ByteArray} (h : (validB rs && toksB ts) = false) : readL rs ts = [] ∧ okI rs ts = 1 := by
  unfold readL okI; rw [h]; exact ⟨rfl, rfl⟩
theorem read_ok {rs : List Rul} {ts : List ByteArray} (h : (validB rs && toksB ts) = true) : okI rs ts = 0 := by
  unfold okI; rw [h]; rfl
theorem read_nil {rs : List Rul} : readL rs [] = [] := by
  unfold readL
  split
  · rw [show allR rs [] 0 ([] : List ByteArray).length = [] by unfold allR; rfl]; rfl
  · rfl
theorem own_blk {w : World} {B : Nat} {e : TypeId} {size : Nat} {v : Value} {n : Nat} {xs : List Value} (h : w.ownsRow B e size v n xs) : ∀ b, v.ownBlock = some b → ∃ cs, Blk w b e cs := fun b hb => by
  rcases h.2 with ⟨rfl, _⟩ | ⟨g, cap, cur, rfl, _, hk, _⟩
  · cases hb
  · obtain rfl : g = b := Option.some.inj hb
    exact ⟨cur, hk⟩
theorem PtrsO.grown {w w' : World} {row : Option Nat} {A : Option Addr} {bs : List Nat} (h : PtrsO w A bs) (hg : w.grownBy w' row) (hr : ∀ b, row = some b → ∃ t cs, Blk w b t cs ∧ t ≠ 57) : PtrsO w' A bs := fun j b hj => by
  obtain ⟨g, h1, ⟨cs, h2⟩, h3⟩ := h j b hj
  have hk := h2.grown hg fun e => by
    obtain ⟨t, cs', h4, h5⟩ := hr g e.symm
    exact h5 (blk_type h4 h2)
  exact ⟨g, h1, ⟨cs, hk⟩, by rw [hk.cell, ← h2.cell]; exact h3⟩
theorem Shs.grown {rs : List Rul} {w w' : World} {row : Option Nat} {bs : List Nat} {xs : List Rd} (h : Shs rs w bs xs) (hg : w.grownBy w' row) (hr : ∀ b, row = some b → ∃ t cs, Blk w b t cs ∧ t ≠ 90) : Shs rs w' bs xs := ⟨h.1, fun j b x h1 h2 => (h.2 j b x h1 h2).grown hg hr⟩
def ReadP (rs : List Rul) (ts : List ByteArray) (w : World) (e : Ending) (w' : World) : Prop := ∃ A cap, e = .returned (.tuple #[.slice A (readL rs ts).length cap, .bool (((readL rs ts).length : Int) == 2), .int .i64 (okI rs ts)]) ∧ (readL rs ts).length ≤ cap ∧ cap ≤ 9223372036854775807 ∧ RdsAt (fun b => w.heap.size ≤ b) w' A (readL rs ts) ∧ Below w.heap.size w w'
theorem RdsAt.nil (ok : Nat → Prop) (w : World) (A : Option Addr) : RdsAt ok w A [] := fun i x h => by simp at h
set_option maxRecDepth 100000 in
set_option maxHeartbeats 4000000 in
theorem read_any (A T : Option Addr) (cap cT : Nat) (rs : List Rul) (ts : List ByteArray) (w : World) (hR : RulsAt w A rs) (hT : ToksAt w T ts) (hc : rs.length ≤ cap) (hcap : cap ≤ 9223372036854775807) : Calls Try.prog 13 #[.slice A rs.length cap, .slice T ts.length cT] w (ReadP rs ts w) := by
  obtain ⟨i0, hi, hz0, hz1, hz2⟩ := info_parts info_rd
  have HR := Lib.hid hR
  have HT := Lib.hid hT
  have HL := Lib.hid (@read_len rs ts)
  clear hR hT
  go_enter Try.func13, Try.ntmps13
  go_wp2_with fail
  refine (valid_any A cap rs _ HR.out hc hcap).mono ?_
  rintro e w1 ⟨rfl, hb⟩
  have HT := Lib.hid (HT.out.keep hb)
  have HR := Lib.hid (HR.out.keep hb)
  have HB := Lib.hid hb
  clear hb
  cases hv : validB rs
  · obtain ⟨e1, e2⟩ := read_bad (rs := rs) (ts := ts) (by rw [hv]; rfl)
    have E1 := Lib.hid e1
    have E2 := Lib.hid e2
    clear e1 e2 hv
    go_wp2_with fail
    go_returns
    unfold ReadP
    rw [E1.out, E2.out]
    exact ⟨none, 0, rfl, by simp, by omega, RdsAt.nil _ _ _, HB.out⟩
  · have HV := Lib.hid hv
    clear hv
    go_wp2_with fail
    refine (tvalid_any T cT ts _ HT.out).mono ?_
    rintro e w2 ⟨rfl, hb⟩
    have HT := Lib.hid (HT.out.keep hb)
    have HR := Lib.hid (HR.out.keep hb)
    have HB := Lib.hid (HB.out.trans (hb.mono HB.out.size))
    clear hb
    cases hv : toksB ts
    · obtain ⟨e1, e2⟩ := read_bad (rs := rs) (ts := ts) (by rw [hv, Bool.and_false])
      have E1 := Lib.hid e1
      have E2 := Lib.hid e2
      clear e1 e2 hv
      go_wp2_with fail
      go_returns
      unfold ReadP
      rw [E1.out, E2.out]
      exact ⟨none, 0, rfl, by simp, by omega, RdsAt.nil _ _ _, HB.out⟩
    · have HW := Lib.hid hv
      have E2 := Lib.hid (read_ok (rs := rs) (ts := ts) (by rw [HV.out, hv]; rfl))
      clear hv
      by_cases h0 : ts = []
      · subst h0
        go_wp2_with fail
        go_returns
        unfold ReadP
        rw [read_nil, E2.out]
        exact ⟨none, 0, rfl, by simp, by omega, RdsAt.nil _ _ _, HB.out⟩
      · have h1 : 0 < ts.length := List.length_pos_iff.2 h0
        have h200 : ts.length ≤ 200 := by have := HW.out; unfold toksB at this; rw [Bool.and_eq_true] at this; exact of_decide_eq_true this.1
        have h64 : rs.length ≤ 64 := by have := HV.out; unfold validB at this; rw [Bool.and_eq_true] at this; exact of_decide_eq_true this.1
        clear h0
        go_wp2_with fail
        refine (newTable_any A T cap cT rs ts _ HV.out HR.out HT.out (by omega) (by omega)).mono ?_
        rintro e w3 ⟨g, F, gc, rows, rfl, hTab, hb⟩
        have HTab := Lib.hid hTab
        have HB := Lib.hid (HB.out.trans (hb.mono HB.out.size))
        clear HR HT hb hTab
        go_wp2_with fail
        have HTab := HTab
        refine (first_any g F rs ts gc rows _ 0 ts.length 0 _ HTab.out h1 (Nat.le_refl _) (by simp [h1]) (by omega)).mono ?_
        rintro e w4 ⟨v, bs, rfl, hO, hS, hb⟩
        rw [← read_first HV.out HW.out] at hS
        obtain ⟨A5, cap5, rfl, hlc, hcc, hP⟩ := hO.form
        have HP := Lib.hid hP
        have HS := Lib.hid hS
        have HB := Lib.hid (HB.out.trans (hb.mono HB.out.size))
        have hbl : bs.length = (readL rs ts).length := hS.1
        clear hO hP hS hb HTab
        go_wp2_with fail
        go_loopw [4, 29] (fun v i wr => ∃ k : Nat, k ≤ (readL rs ts).length ∧ i = .int .i64 k ∧ Hid (AppR (fun b => w.heap.size ≤ b) wr w.heap.size v ((readL rs ts).take k)) ∧ Hid (PtrsO wr A5 bs) ∧ Hid (Shs rs wr bs (readL rs ts)) ∧ Hid (Below w.heap.size w wr)) (fun _ i _ => (readL rs ts).length - (intOf i).toNat)
        case atStart => exact ⟨0, by omega, rfl, by rw [List.take_zero]; exact AppR.nil (fun b => w.heap.size ≤ b) _ _, HP, HS, HB⟩
        case round =>
          clear HP HS HB
          obtain ⟨k, hk, rfl, HO, HP, HS, HB⟩ := hrel
          by_cases hlt : k < (readL rs ts).length
          · obtain ⟨x, hx⟩ : ∃ x, (readL rs ts)[k]? = some x := ⟨_, List.getElem?_eq_getElem hlt⟩
            obtain ⟨b', hb'⟩ : ∃ b, bs[k]? = some b := ⟨_, List.getElem?_eq_getElem (by omega)⟩
            obtain ⟨g5, rfl, ⟨cs5, h5⟩, c0⟩ := HP.out k b' hb'
            have HX := Lib.hid (HS.out.2 k b' x hb' hx)
            have HTK := Lib.hid (show (readL rs ts).take (k + 1) = (readL rs ts).take k ++ [x] by rw [List.take_add_one, hx]; rfl)
            clear hx hb' h5
            go_wp2_with fail
            clear c0
            refine (export_any rs (sizeR x) b' x _ (Nat.le_refl _) HX.out).mono ?_
            rintro e w6 ⟨c, rfl, hc6, hb6⟩
            have HP := Lib.hid (HP.out.keep hb6)
            have HS := Lib.hid (HS.out.keep hb6)
            have HC := Lib.hid (hc6.any (ok' := fun b => u4.ownBlock ≠ some b ∧ w.heap.size ≤ b) fun b _ h => ⟨fun h' => by
              have := (HO.out.lt b h').2
              omega, by have := HB.out.size; omega⟩)
            have HO := Lib.hid (HO.out.keep hb6)
            have HB := Lib.hid (HB.out.trans (hb6.mono HB.out.size))
            clear hc6 hb6 HX
            obtain ⟨A8, c8, rfl, _⟩ := HC.out.form
            have hba := bel_alloc w6 (.cells (rdC x.rule x.at_ A8 x.kids.length c8) 34)
            have K6 := Lib.hid (Blk.new w6 34 (rdC x.rule x.at_ A8 x.kids.length c8))
            have HP := Lib.hid (HP.out.keep hba)
            have HS := Lib.hid (HS.out.keep hba)
            have HC := Lib.hid (HC.out.keep hba)
            obtain ⟨css, ho, hl, hr⟩ := HO.out.keep hba
            have HO := Lib.hid (HO.out.keep hba)
            have HB := Lib.hid (HB.out.trans (hba.mono HB.out.size))
            have hxl : (List.take k (readL rs ts)).length ≤ 2 := by rw [List.length_take]; have := HL.out; omega
            clear hba
            go_wp2_with (at_builtin; refine wpList_append_any _ rfl (.tmp 33) (.tmp 36) 26 rfl w.heap.size 34 i0 (.agg #[.int .i64 0, .int .i64 0, .slice none 0 0]) 3 40 Try.underlying26 hi hz0 hz1 hz2 rfl (by decide) _ _ _ rfl ho (w6.heap.size + 1) (some ⟨w6.heap.size, 0, none⟩) 1 1 (rdC x.rule x.at_ A8 x.kids.length c8).toList rfl (by have := reads_agg K6.out rfl; rw [World.size_alloc] at this; exact this) (rd_one HC.out) (by unfold maxLen; omega) (by omega) HB.out.size ?_; intro v' w' g2 g3 g4)
            have hrow : ∀ b, u4.ownBlock = some b → ∃ t cs, Blk _ b t cs ∧ t ≠ 90 ∧ t ≠ 57 := fun b hb => by
              obtain ⟨cs, h⟩ := own_blk ho b hb
              exact ⟨_, cs, h, by decide, by decide⟩
            have HP := Lib.hid (HP.out.grown g3 fun b hb => by obtain ⟨t, cs, h, _, h2⟩ := hrow b hb; exact ⟨t, cs, h, h2⟩)
            have HS := Lib.hid (HS.out.grown g3 fun b hb => by obtain ⟨t, cs, h, h1, _⟩ := hrow b hb; exact ⟨t, cs, h, h1⟩)
            have HO := Lib.hid (AppR.push hl hr HC.out g2 g3 g4)
            rw [← HTK.out] at HO
            have HB := Lib.hid (HB.out.grown g3 HB.out.size fun b hb => (World.ownsRow.lt ho b hb).1)
            clear ho hl hr g2 g3 g4 hrow
            go_wp2_with fail
            go_roundw
            case rel => exact ⟨k + 1, by omega, by go_num, HO, HP, HS, HB⟩
            case measure => simp [intOf]; omega
          · obtain rfl : k = (readL rs ts).length := by omega
            rw [List.take_of_length_le (Nat.le_refl _)] at HO
            obtain ⟨A8, cap8, rfl, hl8, hc8, hR8⟩ := HO.out.form (fun b h => h)
            have HR8 := Lib.hid hR8
            clear hR8
            go_wp2_with fail
            go_returns
            exact ⟨A8, cap8, by rw [E2.out]; rfl, hl8, hc8, HR8.out, HB.out⟩
end Go.Proofs.Ytmhddlhlniajpaa
