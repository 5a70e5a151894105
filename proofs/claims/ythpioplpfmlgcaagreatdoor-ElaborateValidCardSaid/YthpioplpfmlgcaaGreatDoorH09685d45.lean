/- Read: the first two readings · What the statements share: short, Few · The cut of a reading: its operator and the ends of its kids · The form of a reading of tokens between two indices · Terms in memory · A region that draws its order, whose operations only read and whose calls only add memory: ONE walk, in the order of the text (the class of worlds: those that extend the world ahead of it); for every program -/
import Derived.Test.YthpioplpfmlgcaaGreatDoorH95b2a9f9
import Derived.Test.YthpioplpfmlgcaaGreatDoorH490bea4c
import Derived.Test.YthpioplpfmlgcaaGreatDoorH2330fffa
import Derived.Test.YthpioplpfmlgcaaGreatDoorH45a8d395
import Derived.BigQuiet
import Derived.Test.YthpioplpfmlgcaaGreatDoorH1ab7d786
namespace Go.Proofs.YthpioplpfmlgcaaGreatDoor.Ch
open Go.RowKit
def readL (rs : List Rul) (ts : List ByteArray) : List Rd := if validB rs && toksB ts then (allR rs ts 0 ts.length).take 2 else []
def okI (rs : List Rul) (ts : List ByteArray) : Int := if validB rs && toksB ts then 0 else 1
theorem read_first {rs : List Rul} (hv : validB rs = true) {ts : List ByteArray} (ht : toksB ts = true) : readL rs ts = firstR rs ts 0 ts.length 0 := by
  unfold readL firstR
  rw [hv, ht, Bool.and_self, if_pos rfl]
  congr 1
  unfold leastR
  rw [List.filter_eq_self.2 fun x hx => decide_eq_true (prec_nonneg hv hx).1]
theorem read_len {rs : List Rul} {ts : List ByteArray} : (readL rs ts).length ≤ 2 := by
  unfold readL
  split
  · rw [List.length_take]; omega
  · simp
theorem read_bad {rs : List Rul} {ts : List ByteArray} (h : (validB rs && toksB ts) = false) : readL rs ts = [] ∧ okI rs ts = 1 := by
  unfold readL okI; rw [h]; exact ⟨rfl, rfl⟩
theorem read_ok {rs : List Rul} {ts : List ByteArray} (h : (validB rs && toksB ts) = true) : okI rs ts = 0 := by
  unfold okI; rw [h]; rfl
theorem read_nil {rs : List Rul} : readL rs [] = [] := by
  unfold readL
  split
  · rw [show allR rs [] 0 ([] : List ByteArray).length = [] by unfold allR; rfl]; rfl
  · rfl
theorem own_blk {w : World} {B : Nat} {e : TypeId} {size : Nat} {v : Value} {n : Nat} {xs : List Value} (h : w.ownsRow B e size v n xs) : ∀ b, v.ownBlock = some b → ∃ cs, Blk w b e cs := fun b hb => by
  rcases h.2 with ⟨rfl, _⟩ | ⟨g, cap, cur, rfl, _, hk, _⟩
  · cases hb
  · obtain rfl : g = b := Option.some.inj hb
    exact ⟨cur, hk⟩
theorem PtrsO.grown {w w' : World} {row : Option Nat} {A : Option Addr} {bs : List Nat} (h : PtrsO w A bs) (hg : w.grownBy w' row) (hr : ∀ b, row = some b → ∃ t cs, Blk w b t cs ∧ t ≠ 137) : PtrsO w' A bs := fun j b hj => by
  obtain ⟨g, h1, ⟨cs, h2⟩, h3⟩ := h j b hj
  have hk := h2.grown hg fun e => by
    obtain ⟨t, cs', h4, h5⟩ := hr g e.symm
    exact h5 (blk_type h4 h2)
  exact ⟨g, h1, ⟨cs, hk⟩, by rw [hk.cell, ← h2.cell]; exact h3⟩
theorem Shs.grown {rs : List Rul} {w w' : World} {row : Option Nat} {bs : List Nat} {xs : List Rd} (h : Shs rs w bs xs) (hg : w.grownBy w' row) (hr : ∀ b, row = some b → ∃ t cs, Blk w b t cs ∧ t ≠ 176) : Shs rs w' bs xs := ⟨h.1, fun j b x h1 h2 => (h.2 j b x h1 h2).grown hg hr⟩
def ReadP (rs : List Rul) (ts : List ByteArray) (w : World) (e : Ending) (w' : World) : Prop := ∃ A cap, e = .returned (.tuple #[.slice A (readL rs ts).length cap, .bool (((readL rs ts).length : Int) == 2), .int .i64 (okI rs ts)]) ∧ (readL rs ts).length ≤ cap ∧ cap ≤ 9223372036854775807 ∧ RdsAt (fun b => w.heap.size ≤ b) w' A (readL rs ts) ∧ Below w.heap.size w w'
theorem RdsAt.nil (ok : Nat → Prop) (w : World) (A : Option Addr) : RdsAt ok w A [] := fun i x h => by simp at h
set_option maxRecDepth 100000 in
set_option maxHeartbeats 4000000 in
theorem read_any (A T : Option Addr) (cap cT : Nat) (rs : List Rul) (ts : List ByteArray) (w : World) (hR : RulsAt w A rs) (hT : ToksAt w T ts) (hc : rs.length ≤ cap) (hcap : cap ≤ 9223372036854775807) : Calls Tryz.prog 54 #[.slice A rs.length cap, .slice T ts.length cT] w (ReadP rs ts w) := by
  obtain ⟨i0, hi, hz0, hz1, hz2⟩ := info_parts info_rd
  have HR := Lib.hid hR
  have HT := Lib.hid hT
  have HL := Lib.hid (@read_len rs ts)
  clear hR hT
  go_enter Tryz.func54, Tryz.ntmps54
  go_wp2_with fail
  refine (valid_any A cap rs _ HR.out hc hcap).mono ?_
  rintro e w1 ⟨rfl, hb⟩
  have HT := Lib.hid (HT.out.keep hb)
  have HR := Lib.hid (HR.out.keep hb)
  have HB := Lib.hid hb
  clear hb
  cases hv : validB rs
  · obtain ⟨e1, e2⟩ := read_bad (rs := rs) (ts := ts) (by rw [hv]; rfl)
    have E1 := Lib.hid e1
    have E2 := Lib.hid e2
    clear e1 e2 hv
    go_wp2_with fail
    go_returns
    unfold ReadP
    rw [E1.out, E2.out]
    exact ⟨none, 0, rfl, by simp, by omega, RdsAt.nil _ _ _, HB.out⟩
  · have HV := Lib.hid hv
    clear hv
    go_wp2_with fail
    refine (tvalid_any T cT ts _ HT.out).mono ?_
    rintro e w2 ⟨rfl, hb⟩
    have HT := Lib.hid (HT.out.keep hb)
    have HR := Lib.hid (HR.out.keep hb)
    have HB := Lib.hid (HB.out.trans (hb.mono HB.out.size))
    clear hb
    cases hv : toksB ts
    · obtain ⟨e1, e2⟩ := read_bad (rs := rs) (ts := ts) (by rw [hv, Bool.and_false])
      have E1 := Lib.hid e1
      have E2 := Lib.hid e2
      clear e1 e2 hv
      go_wp2_with fail
      go_returns
      unfold ReadP
      rw [E1.out, E2.out]
      exact ⟨none, 0, rfl, by simp, by omega, RdsAt.nil _ _ _, HB.out⟩
    · have HW := Lib.hid hv
      have E2 := Lib.hid (read_ok (rs := rs) (ts := ts) (by rw [HV.out, hv]; rfl))
      clear hv
      by_cases h0 : ts = []
      · subst h0
        go_wp2_with fail
        go_returns
        unfold ReadP
        rw [read_nil, E2.out]
        exact ⟨none, 0, rfl, by simp, by omega, RdsAt.nil _ _ _, HB.out⟩
      · have h1 : 0 < ts.length := List.length_pos_iff.2 h0
        have h200 : ts.length ≤ 200 := by have := HW.out; unfold toksB at this; rw [Bool.and_eq_true] at this; exact of_decide_eq_true this.1
        have h64 : rs.length ≤ 64 := by have := HV.out; unfold validB at this; rw [Bool.and_eq_true] at this; exact of_decide_eq_true this.1
        clear h0
        go_wp2_with fail
        refine (newTable_any A T cap cT rs ts _ HV.out HR.out HT.out (by omega) (by omega)).mono ?_
        rintro e w3 ⟨g, F, gc, rows, rfl, hTab, hb⟩
        have HTab := Lib.hid hTab
        have HB := Lib.hid (HB.out.trans (hb.mono HB.out.size))
        clear HR HT hb hTab
        go_wp2_with fail
        have HTab := HTab
        refine (first_any g F rs ts gc rows _ 0 ts.length 0 _ HTab.out h1 (Nat.le_refl _) (by simp [h1]) (by omega)).mono ?_
        rintro e w4 ⟨v, bs, rfl, hO, hS, hb⟩
        rw [← read_first HV.out HW.out] at hS
        obtain ⟨A5, cap5, rfl, hlc, hcc, hP⟩ := hO.form
        have HP := Lib.hid hP
        have HS := Lib.hid hS
        have HB := Lib.hid (HB.out.trans (hb.mono HB.out.size))
        have hbl : bs.length = (readL rs ts).length := hS.1
        clear hO hP hS hb HTab
        go_wp2_with fail
        go_loopw [4, 29] (fun v i wr => ∃ k : Nat, k ≤ (readL rs ts).length ∧ i = .int .i64 k ∧ Hid (AppR (fun b => w.heap.size ≤ b) wr w.heap.size v ((readL rs ts).take k)) ∧ Hid (PtrsO wr A5 bs) ∧ Hid (Shs rs wr bs (readL rs ts)) ∧ Hid (Below w.heap.size w wr)) (fun _ i _ => (readL rs ts).length - (intOf i).toNat)
        case atStart => exact ⟨0, by omega, rfl, by rw [List.take_zero]; exact AppR.nil (fun b => w.heap.size ≤ b) _ _, HP, HS, HB⟩
        case round =>
          clear HP HS HB
          obtain ⟨k, hk, rfl, HO, HP, HS, HB⟩ := hrel
          by_cases hlt : k < (readL rs ts).length
          · obtain ⟨x, hx⟩ : ∃ x, (readL rs ts)[k]? = some x := ⟨_, List.getElem?_eq_getElem hlt⟩
            obtain ⟨b', hb'⟩ : ∃ b, bs[k]? = some b := ⟨_, List.getElem?_eq_getElem (by omega)⟩
            obtain ⟨g5, rfl, ⟨cs5, h5⟩, c0⟩ := HP.out k b' hb'
            have HX := Lib.hid (HS.out.2 k b' x hb' hx)
            have HTK := Lib.hid (show (readL rs ts).take (k + 1) = (readL rs ts).take k ++ [x] by rw [List.take_add_one, hx]; rfl)
            clear hx hb' h5
            go_wp2_with fail
            clear c0
            refine (export_any rs (sizeR x) b' x _ (Nat.le_refl _) HX.out).mono ?_
            rintro e w6 ⟨c, rfl, hc6, hb6⟩
            have HP := Lib.hid (HP.out.keep hb6)
            have HS := Lib.hid (HS.out.keep hb6)
            have HC := Lib.hid (hc6.any (ok' := fun b => u4.ownBlock ≠ some b ∧ w.heap.size ≤ b) fun b _ h => ⟨fun h' => by
              have := (HO.out.lt b h').2
              omega, by have := HB.out.size; omega⟩)
            have HO := Lib.hid (HO.out.keep hb6)
            have HB := Lib.hid (HB.out.trans (hb6.mono HB.out.size))
            clear hc6 hb6 HX
            obtain ⟨A8, c8, rfl, _⟩ := HC.out.form
            have hba := bel_alloc w6 (.cells (rdC x.rule x.at_ A8 x.kids.length c8) 60)
            have K6 := Lib.hid (Blk.new w6 60 (rdC x.rule x.at_ A8 x.kids.length c8))
            have HP := Lib.hid (HP.out.keep hba)
            have HS := Lib.hid (HS.out.keep hba)
            have HC := Lib.hid (HC.out.keep hba)
            obtain ⟨css, ho, hl, hr⟩ := HO.out.keep hba
            have HO := Lib.hid (HO.out.keep hba)
            have HB := Lib.hid (HB.out.trans (hba.mono HB.out.size))
            have hxl : (List.take k (readL rs ts)).length ≤ 2 := by rw [List.length_take]; have := HL.out; omega
            clear hba
            go_wp2_with (at_builtin; refine wpList_append_any _ rfl (.tmp 33) (.tmp 36) 53 rfl w.heap.size 60 i0 (.agg #[.int .i64 0, .int .i64 0, .slice none 0 0]) 3 40 Tryz.underlying53 hi hz0 hz1 hz2 rfl (by decide) _ _ _ rfl ho (w6.heap.size + 1) (some ⟨w6.heap.size, 0, none⟩) 1 1 (rdC x.rule x.at_ A8 x.kids.length c8).toList rfl (by have := reads_agg K6.out rfl; rw [World.size_alloc] at this; exact this) (rd_one HC.out) (by unfold maxLen; omega) (by omega) HB.out.size ?_; intro v' w' g2 g3 g4)
            have hrow : ∀ b, u4.ownBlock = some b → ∃ t cs, Blk _ b t cs ∧ t ≠ 176 ∧ t ≠ 137 := fun b hb => by
              obtain ⟨cs, h⟩ := own_blk ho b hb
              exact ⟨_, cs, h, by decide, by decide⟩
            have HP := Lib.hid (HP.out.grown g3 fun b hb => by obtain ⟨t, cs, h, _, h2⟩ := hrow b hb; exact ⟨t, cs, h, h2⟩)
            have HS := Lib.hid (HS.out.grown g3 fun b hb => by obtain ⟨t, cs, h, h1, _⟩ := hrow b hb; exact ⟨t, cs, h, h1⟩)
            have HO := Lib.hid (AppR.push hl hr HC.out g2 g3 g4)
            rw [← HTK.out] at HO
            have HB := Lib.hid (HB.out.grown g3 HB.out.size fun b hb => (World.ownsRow.lt ho b hb).1)
            clear ho hl hr g2 g3 g4 hrow
            go_wp2_with fail
            go_roundw
            case rel => exact ⟨k + 1, by omega, by go_num, HO, HP, HS, HB⟩
            case measure => simp [intOf]; omega
          · obtain rfl : k = (readL rs ts).length := by omega
            rw [List.take_of_length_le (Nat.le_refl _)] at HO
            obtain ⟨A8, cap8, rfl, hl8, hc8, hR8⟩ := HO.out.form (fun b h => h)
            have HR8 := Lib.hid hR8
            clear hR8
            go_wp2_with fail
            go_returns
            exact ⟨A8, cap8, by rw [E2.out]; rfl, hl8, hc8, HR8.out, HB.out⟩
end Go.Proofs.YthpioplpfmlgcaaGreatDoor.Ch
namespace Go.Proofs.YthpioplpfmlgcaaGreatDoor.Ch
open Go.RowKit
theorem RdsAt.at_ {ok : Nat → Prop} {w : World} {A : Option Addr} {ks : List Rd} (h : RdsAt ok w A ks) {k : Nat} {x : Rd} (hk : ks[k]? = some x) :
    ∃ ad A' cap', A = some ad ∧ ad.block < w.heap.size ∧ RdAt ok w x (rdC x.rule x.at_ A' x.kids.length cap') ∧ x.kids.length ≤ cap' ∧ cap' ≤ 9223372036854775807 ∧ RdsAt ok w A' x.kids ∧ w.cell? (ad.add (k * 3)) = some (.int .i64 x.rule) ∧ w.cell? ⟨(ad.add (k * 3)).block, (ad.add (k * 3)).off + 1, none⟩ = some (.int .i64 x.at_) ∧ w.cell? ⟨(ad.add (k * 3)).block, (ad.add (k * 3)).off + 2, none⟩ = some (.slice A' x.kids.length cap') := by
  obtain ⟨ad, hA, hlt, _, c, hc, hd⟩ := h k x hk
  obtain ⟨A', cap', rfl, h1, h2, h3⟩ := hc.form
  exact ⟨ad, A', cap', hA, hlt, hc, h1, h2, h3, hd 0 (by omega), add_cell (j := 0) (hd 1 (by omega)), add_cell (j := 1) (hd 2 (by omega))⟩
end Go.Proofs.YthpioplpfmlgcaaGreatDoor.Ch
namespace Go.Proofs.YthpioplpfmlgcaaGreatDoor.El
open Go.Proofs.YthpioplpfmlgcaaGreatDoor.At
open Go.Proofs.YthpioplpfmlgcaaGreatDoor.Ch
open Go.Proofs.YthpioplpfmlgcaaGreatDoor.Sp
open Go.Proofs.YthpioplpfmlgcaaGreatDoor.Sy
open Go.RowKit
/-- a slice of integers that a call has made -/
abbrev OwnInts (w : World) (B : Nat) (v : Value) (p : List Int) : Prop := w.ownsRow B 3 1 v p.length (ints p)
theorem own_new (w : World) (p : List Int) (hp : p.length ≤ 1000000) : OwnInts (w.alloc (.cells (ints p).toArray 3)) w.heap.size (.slice (some ⟨w.heap.size, 0, none⟩) p.length p.length) p :=
  ⟨by simp [ints], .inr ⟨w.heap.size, p.length, (ints p).toArray, rfl, Nat.le_refl _, Blk.new w _ _, Nat.le_refl _, by unfold maxLen; omega, by simp [ints], by rw [List.take_of_length_le (by simp [ints])]⟩⟩
theorem own_mono {w : World} {B B' : Nat} {v : Value} {p : List Int} (h : B ≤ B') (ho : OwnInts w B' v p) : OwnInts w B v p := by
  obtain ⟨h1, h2⟩ := ho
  refine ⟨h1, ?_⟩
  rcases h2 with h2 | ⟨g, cap, cur, e1, e2, e3⟩
  · exact .inl h2
  · exact .inr ⟨g, cap, cur, e1, Nat.le_trans h e2, e3⟩
theorem kid_at {ok : Nat → Prop} {w : World} {A : Option Addr} {ks : List Rd} (h : RdsAt ok w A ks) {x : Rd} (hx : ks[1]? = some x) : ∃ ad : Addr, A = some ad ∧ w.cell? ⟨ad.block, ad.off + 3 + 1, none⟩ = some (.int .i64 x.at_) := by
  obtain ⟨ad, A3, cap3, h1, _, _, _, _, _, _, h4, _⟩ := RdsAt.at_ h hx
  refine ⟨ad, h1, ?_⟩
  have e : ad.add (1 * 3) = ⟨ad.block, ad.off + 3, none⟩ := by unfold Addr.add; simp
  rw [e] at h4
  exact h4
def CutP (rs : List Rul) (x : Rd) (fin : Int) (w : World) (e : Ending) (w' : World) : Prop := ∃ v, e = .returned (.tuple #[.int .i64 (opI rs x fin), v]) ∧ OwnInts w' w.heap.size v (endsI rs x fin) ∧ Below w.heap.size w w'
set_option maxRecDepth 100000 in
set_option maxHeartbeats 4000000 in
theorem cut_any (ok : Nat → Prop) (g : Nat) (A : Option Addr) (cap : Nat) (rs : List Rul) (x : Rd) (c : Array Value) (fin : Int) (r : Nat) (u : Rul) (w : World) (hR : RdrAt w g A cap rs) (hX : RdAt ok w x c) (hr : x.rule = (r : Int)) (hu : rs[r]? = some u)
    (hk : (u.kind ≠ 2 ∧ u.kind ≠ 3) → ∃ a b ks, x.kids = a :: b :: ks ∧ 1 ≤ b.at_ ∧ b.at_ ≤ 1000000) (hf : 1 ≤ fin) (hf2 : fin ≤ 1000000) :
    Calls Tryz.prog 102 #[.pointer (some ⟨g, 0, none⟩), .agg c, .int .i64 fin] w (CutP rs x fin w) := by
  obtain ⟨A2, cap2, rfl, hl, hc, hks⟩ := hX.form
  obtain ⟨b, nb, D, hbx, hmp, hse⟩ := hR.box
  obtain ⟨hfit, ad, rfl, hadl, c0, c1, c2, c3, c4, c5⟩ := hR.rul.at_ hu
  have hrl : r < rs.length := (List.getElem?_eq_some_iff.1 hu).1
  have hkd : kndR rs x.rule = u.kind := by unfold kndR; rw [hr, Int.toNat_natCast, hu]
  have hb0 := bel_alloc w (.cells (rdC x.rule x.at_ A2 x.kids.length cap2) 60)
  have HB := Lib.hid hb0
  have K1 := Lib.hid (Blk.new w 60 (rdC x.rule x.at_ A2 x.kids.length cap2))
  have HBX := Lib.hid (keep hb0 hbx)
  have hcell := hb0.cell (p := ad.add (r * 6)) (by rw [block_of_add]; exact hadl)
  rw [c0] at hcell
  have HC := Lib.hid hcell
  have HKS := Lib.hid (hks.keep hb0)
  have HK := Lib.hid hk
  have HKD := Lib.hid hkd
  clear hR hX hks hbx hmp hse hfit c0 c1 c2 c3 c4 c5 hcell hk hkd hb0
  rw [hr] at K1 HB HBX HC HKS
  go_enter Tryz.func102, Tryz.ntmps102
  rw [hr]
  go_upto_region 1 with (fail)
  generalize w.alloc (.cells (rdC (r : Int) x.at_ A2 x.kids.length cap2) 60) = w1 at *
  have k0 := K1.out.cell 0
  have b0 := HBX.out.cell 0
  have hc0 := HC.out
  go_quiet (fail)
  have k1 := K1.out.cell 1
  have k2 := K1.out.cell 2
  by_cases h1 : u.kind = 1
  · obtain ⟨xa, xb, xs, hxk, hb1, hb2⟩ := HK.out (by omega)
    obtain ⟨ad2, rfl, d1⟩ : ∃ ad2 : Addr, A2 = some ad2 ∧ w1.cell? ⟨ad2.block, ad2.off + 3 + 1, none⟩ = some (.int .i64 xb.at_) := kid_at HKS.out (by rw [hxk]; rfl)
    have HQ := Lib.hid (show opI rs x fin = xb.at_ - 1 ∧ endsI rs x fin = [xb.at_ - 1, fin] by
      unfold opI endsI kidAt
      rw [HKD.out, if_pos h1, if_pos h1, hxk]
      exact ⟨rfl, rfl⟩)
    have q : (u.kind == 1) = true := beq_iff_eq.2 h1
    have W1 : wrap64 (xb.at_ - 1) = xb.at_ - 1 := by unfold wrap64; omega
    have hpos : (1 : Int) < (x.kids.length : Int) := by rw [hxk, List.length_cons, List.length_cons]; omega
    clear h1 hxk
    go_wp2_with fail
    exact bodyPost_ret (v := .tuple #[.int .i64 (xb.at_ - 1), .slice (some ⟨w1.heap.size, 0, none⟩) 2 2]) (by simp [results, Tryz.results102, go_sem]) rfl ⟨_, by rw [HQ.out.1], by rw [HQ.out.2]; exact own_mono HB.out.size (own_new (w1.drewN nq) [xb.at_ - 1, fin] (by simp)), HB.out.trans (((below_drewN (Below.refl w1.heap.size w1) nq).trans (bel_alloc (w1.drewN nq) _)).mono HB.out.size)⟩
  have q1 : (u.kind == 1) = false := beq_eq_false_iff_ne.2 h1
  by_cases h2 : u.kind = 2
  · have HQ := Lib.hid (show opI rs x fin = x.at_ ∧ endsI rs x fin = [fin] by
      unfold opI endsI
      rw [HKD.out, if_neg h1, if_neg h1, if_pos h2, if_pos h2]
      exact ⟨rfl, rfl⟩)
    have q2 : (u.kind == 2) = true := beq_iff_eq.2 h2
    clear h1 h2
    go_wp2_with fail
    exact bodyPost_ret (v := .tuple #[.int .i64 (x.at_), .slice (some ⟨w1.heap.size, 0, none⟩) 1 1]) (by simp [results, Tryz.results102, go_sem]) rfl ⟨_, by rw [HQ.out.1], by rw [HQ.out.2]; exact own_mono HB.out.size (own_new (w1.drewN nq) [fin] (by simp)), HB.out.trans (((below_drewN (Below.refl w1.heap.size w1) nq).trans (bel_alloc (w1.drewN nq) _)).mono HB.out.size)⟩
  have q2 : (u.kind == 2) = false := beq_eq_false_iff_ne.2 h2
  by_cases h3 : u.kind = 3
  · have HQ := Lib.hid (show opI rs x fin = fin - 1 ∧ endsI rs x fin = [fin - 1] by
      unfold opI endsI
      rw [HKD.out, if_neg h1, if_neg h1, if_neg h2, if_neg h2, if_pos h3, if_pos h3]
      exact ⟨rfl, rfl⟩)
    have q3 : (u.kind == 3) = true := beq_iff_eq.2 h3
    have W1 : wrap64 (fin - 1) = fin - 1 := by unfold wrap64; omega
    clear h1 h2 h3
    go_wp2_with fail
    exact bodyPost_ret (v := .tuple #[.int .i64 (fin - 1), .slice (some ⟨w1.heap.size, 0, none⟩) 1 1]) (by simp [results, Tryz.results102, go_sem]) rfl ⟨_, by rw [HQ.out.1], by rw [HQ.out.2]; exact own_mono HB.out.size (own_new (w1.drewN nq) [fin - 1] (by simp)), HB.out.trans (((below_drewN (Below.refl w1.heap.size w1) nq).trans (bel_alloc (w1.drewN nq) _)).mono HB.out.size)⟩
  have q3 : (u.kind == 3) = false := beq_eq_false_iff_ne.2 h3
  obtain ⟨xa, xb, xs, hxk, hb1, hb2⟩ := HK.out ⟨h2, h3⟩
  obtain ⟨ad2, rfl, d1⟩ : ∃ ad2 : Addr, A2 = some ad2 ∧ w1.cell? ⟨ad2.block, ad2.off + 3 + 1, none⟩ = some (.int .i64 xb.at_) := kid_at HKS.out (by rw [hxk]; rfl)
  have HQ := Lib.hid (show opI rs x fin = -1 ∧ endsI rs x fin = [xb.at_, fin] by
    unfold opI endsI kidAt
    rw [HKD.out, if_neg h1, if_neg h1, if_neg h2, if_neg h2, if_neg h3, if_neg h3, hxk]
    exact ⟨rfl, rfl⟩)
  have hpos : (1 : Int) < (x.kids.length : Int) := by rw [hxk, List.length_cons, List.length_cons]; omega
  clear h1 h2 h3 hxk
  go_upto_region 9 with (fail)
  go_region
  go_wp2_with fail
  exact bodyPost_ret (v := .tuple #[.int .i64 (-1), .slice (some ⟨w1.heap.size, 0, none⟩) 2 2]) (by simp [results, Tryz.results102, go_sem]) rfl ⟨_, by rw [HQ.out.1], by rw [HQ.out.2]; exact own_mono HB.out.size (own_new (w1.drewN (nq + 1)) [xb.at_, fin] (by simp)), HB.out.trans (((below_drewN (Below.refl w1.heap.size w1) (nq + 1)).trans (bel_alloc (w1.drewN (nq + 1)) _)).mono HB.out.size)⟩
end Go.Proofs.YthpioplpfmlgcaaGreatDoor.El
namespace Go.Proofs.YthpioplpfmlgcaaGreatDoor.El
open Go.Proofs.YthpioplpfmlgcaaGreatDoor.At
open Go.Proofs.YthpioplpfmlgcaaGreatDoor.Ch
open Go.Proofs.YthpioplpfmlgcaaGreatDoor.Sp
open Go.Proofs.YthpioplpfmlgcaaGreatDoor.Sy
open Go.RowKit
inductive OkR (rs : List Rul) : Rd → Nat → Nat → Prop
  | leaf (i : Nat) : OkR rs (.mk (-1) i []) i (i + 1)
  | inf (n : Nat) (u : Rul) (i k j : Nat) (y z : Rd) (hu : rs[n]? = some u) (hk : u.kind = 1) (h1 : i < k) (h2 : k + 1 < j) (hz : z.at_ = ((k + 1 : Nat) : Int)) (a : OkR rs y i k) (b : OkR rs z (k + 1) j) : OkR rs (.mk n i [y, z]) i j
  | pre (n : Nat) (u : Rul) (i j : Nat) (y : Rd) (hu : rs[n]? = some u) (hk : u.kind = 2) (h1 : i + 1 < j) (a : OkR rs y (i + 1) j) : OkR rs (.mk n i [y]) i j
  | pos (n : Nat) (u : Rul) (i j : Nat) (y : Rd) (hu : rs[n]? = some u) (hk : u.kind = 3) (h1 : i < j - 1) (a : OkR rs y i (j - 1)) : OkR rs (.mk n i [y]) i j
  | jux (n : Nat) (u : Rul) (i k j : Nat) (y z : Rd) (hu : rs[n]? = some u) (hk : u.kind = 4) (h1 : i < k) (h2 : k < j) (hz : z.at_ = (k : Int)) (a : OkR rs y i k) (b : OkR rs z k j) : OkR rs (.mk n i [y, z]) i j
theorem ok_of_mem {rs : List Rul} {ts : List ByteArray} : ∀ (m i j : Nat) (x : Rd), j - i ≤ m → x ∈ allR rs ts i j → OkR rs x i j
  | 0, i, j, x, hm, h => by have := mem_lt h; omega
  | m + 1, i, j, x, hm, h => by
    have hij := mem_lt h
    rcases (mem_all hij).1 h with ⟨rfl, _, rfl⟩ | ⟨n, u, hu, hr⟩
    · exact .leaf i
    · rcases hr with ⟨hk, k, y, z, h1, h2, _, hy, hz, rfl⟩ | ⟨hk, y, _, hy, rfl⟩ | ⟨hk, y, _, hy, rfl⟩ | ⟨hk, k, y, z, h1, h2, hy, hz, rfl⟩
      · exact .inf n u i k j y z hu hk h1 h2 (mem_least_at hz).1 (ok_of_mem m i k y (by omega) (mem_least.1 hy).1) (ok_of_mem m (k + 1) j z (by omega) (mem_least.1 hz).1)
      · exact .pre n u i j y hu hk (mem_least_at hy).2 (ok_of_mem m (i + 1) j y (by omega) (mem_least.1 hy).1)
      · exact .pos n u i j y hu hk (mem_least_at hy).2 (ok_of_mem m i (j - 1) y (by omega) (mem_least.1 hy).1)
      · exact .jux n u i k j y z hu hk h1 h2 (mem_least_at hz).1 (ok_of_mem m i k y (by omega) (mem_least.1 hy).1) (ok_of_mem m k j z (by omega) (mem_least.1 hz).1)
theorem knd_of {rs : List Rul} {n : Nat} {u : Rul} (hu : rs[n]? = some u) : kndR rs (n : Int) = u.kind := by
  unfold kndR; rw [Int.toNat_natCast, hu]
theorem asg_eq (rs : List Rul) (r a : Int) (ks : List Rd) (fin : Int) : asgR rs (.mk r a ks) fin = if r < 0 then [] else (if 0 ≤ opI rs (.mk r a ks) fin then [(opI rs (.mk r a ks) fin, r)] else []) ++ asgL rs ks (endsI rs (.mk r a ks) fin) := by
  rw [asgR]
theorem asg_leaf (rs : List Rul) (i : Nat) (fin : Int) : asgR rs (.mk (-1) i []) fin = [] := by
  rw [asg_eq]; rfl
theorem asg_inf {rs : List Rul} {n : Nat} {u : Rul} {i k j : Nat} {y z : Rd} (hu : rs[n]? = some u) (hk : u.kind = 1) (hz : z.at_ = ((k + 1 : Nat) : Int)) :
    asgR rs (.mk n i [y, z]) (j : Int) = ((k : Int), (n : Int)) :: (asgR rs y (k : Int) ++ asgR rs z (j : Int)) := by
  have ho : opI rs (.mk n i [y, z]) (j : Int) = (k : Int) := by
    unfold opI kidAt
    rw [show Rd.rule (.mk n i [y, z]) = (n : Int) from rfl, knd_of hu, if_pos hk]
    show z.at_ - 1 = _
    rw [hz]; omega
  have he : endsI rs (.mk n i [y, z]) (j : Int) = [(k : Int), (j : Int)] := by
    unfold endsI kidAt
    rw [show Rd.rule (.mk n i [y, z]) = (n : Int) from rfl, knd_of hu, if_pos hk]
    show [z.at_ - 1, _] = _
    rw [hz, show (((k + 1 : Nat) : Int) - 1) = (k : Int) by omega]
  rw [asg_eq, ho, he, if_neg (by omega), if_pos (by omega)]
  simp [asgL]
theorem asg_pre {rs : List Rul} {n : Nat} {u : Rul} {i j : Nat} {y : Rd} (hu : rs[n]? = some u) (hk : u.kind = 2) :
    asgR rs (.mk n i [y]) (j : Int) = ((i : Int), (n : Int)) :: asgR rs y (j : Int) := by
  have h1 : ¬ u.kind = 1 := by omega
  have ho : opI rs (.mk n i [y]) (j : Int) = (i : Int) := by
    unfold opI
    rw [show Rd.rule (.mk n i [y]) = (n : Int) from rfl, knd_of hu, if_neg h1, if_pos hk]
    rfl
  have he : endsI rs (.mk n i [y]) (j : Int) = [(j : Int)] := by
    unfold endsI
    rw [show Rd.rule (.mk n i [y]) = (n : Int) from rfl, knd_of hu, if_neg h1, if_pos hk]
  rw [asg_eq, ho, he, if_neg (by omega), if_pos (by omega)]
  simp [asgL]
theorem asg_pos {rs : List Rul} {n : Nat} {u : Rul} {i j : Nat} {y : Rd} (hu : rs[n]? = some u) (hk : u.kind = 3) (hj : 0 < j) :
    asgR rs (.mk n i [y]) (j : Int) = (((j - 1 : Nat) : Int), (n : Int)) :: asgR rs y ((j - 1 : Nat) : Int) := by
  have h1 : ¬ u.kind = 1 := by omega
  have h2 : ¬ u.kind = 2 := by omega
  have hj1 : (j : Int) - 1 = ((j - 1 : Nat) : Int) := by omega
  have ho : opI rs (.mk n i [y]) (j : Int) = ((j - 1 : Nat) : Int) := by
    unfold opI
    rw [show Rd.rule (.mk n i [y]) = (n : Int) from rfl, knd_of hu, if_neg h1, if_neg h2, if_pos hk, hj1]
  have he : endsI rs (.mk n i [y]) (j : Int) = [((j - 1 : Nat) : Int)] := by
    unfold endsI
    rw [show Rd.rule (.mk n i [y]) = (n : Int) from rfl, knd_of hu, if_neg h1, if_neg h2, if_pos hk, hj1]
  rw [asg_eq, ho, he, if_neg (by omega), if_pos (by omega)]
  simp [asgL]
theorem asg_jux {rs : List Rul} {n : Nat} {u : Rul} {i k j : Nat} {y z : Rd} (hu : rs[n]? = some u) (hk : u.kind = 4) (hz : z.at_ = (k : Int)) :
    asgR rs (.mk n i [y, z]) (j : Int) = asgR rs y (k : Int) ++ asgR rs z (j : Int) := by
  have h1 : ¬ u.kind = 1 := by omega
  have h2 : ¬ u.kind = 2 := by omega
  have h3 : ¬ u.kind = 3 := by omega
  have ho : opI rs (.mk n i [y, z]) (j : Int) = -1 := by
    unfold opI
    rw [show Rd.rule (.mk n i [y, z]) = (n : Int) from rfl, knd_of hu, if_neg h1, if_neg h2, if_neg h3]
  have he : endsI rs (.mk n i [y, z]) (j : Int) = [(k : Int), (j : Int)] := by
    unfold endsI kidAt
    rw [show Rd.rule (.mk n i [y, z]) = (n : Int) from rfl, knd_of hu, if_neg h1, if_neg h2, if_neg h3]
    show [z.at_, _] = _
    rw [hz]
  rw [asg_eq, ho, he, if_neg (by omega), if_neg (by omega)]
  simp [asgL]
theorem ok_lt {rs : List Rul} {x : Rd} {i j : Nat} (h : OkR rs x i j) : i < j := by
  cases h <;> omega
/-- each write of assign lies within the reading, and is of a rule -/
theorem asg_range {rs : List Rul} {x : Rd} {i j : Nat} (h : OkR rs x i j) : ∀ p ∈ asgR rs x (j : Int), ∃ q n : Nat, p = ((q : Int), (n : Int)) ∧ i ≤ q ∧ q < j ∧ n < rs.length := by
  induction h with
  | leaf i => rw [asg_leaf]; intro p hp; cases hp
  | inf n u i k j y z hu hk h1 h2 hz a b ha hb =>
    rw [asg_inf hu hk hz]
    intro p hp
    rcases List.mem_cons.1 hp with rfl | hp
    · exact ⟨k, n, rfl, by omega, by omega, (List.getElem?_eq_some_iff.1 hu).1⟩
    · rcases List.mem_append.1 hp with hp | hp
      · obtain ⟨q, m, e, h3, h4, h5⟩ := ha p hp
        exact ⟨q, m, e, h3, by omega, h5⟩
      · obtain ⟨q, m, e, h3, h4, h5⟩ := hb p hp
        exact ⟨q, m, e, by omega, h4, h5⟩
  | pre n u i j y hu hk h1 a ha =>
    rw [asg_pre hu hk]
    intro p hp
    rcases List.mem_cons.1 hp with rfl | hp
    · exact ⟨i, n, rfl, by omega, by omega, (List.getElem?_eq_some_iff.1 hu).1⟩
    · obtain ⟨q, m, e, h3, h4, h5⟩ := ha p hp
      exact ⟨q, m, e, by omega, h4, h5⟩
  | pos n u i j y hu hk h1 a ha =>
    rw [asg_pos hu hk (by omega)]
    intro p hp
    rcases List.mem_cons.1 hp with rfl | hp
    · exact ⟨j - 1, n, rfl, by omega, by omega, (List.getElem?_eq_some_iff.1 hu).1⟩
    · obtain ⟨q, m, e, h3, h4, h5⟩ := ha p hp
      exact ⟨q, m, e, h3, by omega, h5⟩
  | jux n u i k j y z hu hk h1 h2 hz a b ha hb =>
    rw [asg_jux hu hk hz]
    intro p hp
    rcases List.mem_append.1 hp with hp | hp
    · obtain ⟨q, m, e, h3, h4, h5⟩ := ha p hp
      exact ⟨q, m, e, h3, by omega, h5⟩
    · obtain ⟨q, m, e, h3, h4, h5⟩ := hb p hp
      exact ⟨q, m, e, by omega, h4, h5⟩
theorem asg_nodup {rs : List Rul} {x : Rd} {i j : Nat} (h : OkR rs x i j) : ((asgR rs x (j : Int)).map Prod.fst).Nodup := by
  have key : ∀ {x : Rd} {i j : Nat}, OkR rs x i j → ∀ a : Nat, (a : Int) ∈ (asgR rs x (j : Int)).map Prod.fst → i ≤ a ∧ a < j := by
    intro x i j h a ha
    obtain ⟨p, hp, e⟩ := List.mem_map.1 ha
    obtain ⟨q, m, rfl, h3, h4, _⟩ := asg_range h p hp
    have : (q : Int) = (a : Int) := e
    omega
  have disj : ∀ {y z : Rd} {i k l j : Nat}, OkR rs y i k → OkR rs z l j → k ≤ l → ∀ a ∈ (asgR rs y (k : Int)).map Prod.fst, ∀ b ∈ (asgR rs z (j : Int)).map Prod.fst, a ≠ b := by
    intro y z i k l j hy hz hkl a ha b hb e
    subst e
    obtain ⟨p, hp, e⟩ := List.mem_map.1 ha
    obtain ⟨q, m, rfl, h3, h4, _⟩ := asg_range hy p hp
    subst e
    have := key hz q hb
    omega
  induction h with
  | leaf i => rw [asg_leaf]; exact List.nodup_nil
  | inf n u i k j y z hu hk h1 h2 hz a b ha hb =>
    rw [asg_inf hu hk hz, List.map_cons, List.map_append, List.nodup_cons, List.nodup_append]
    refine ⟨fun hm => ?_, ha, hb, disj a b (by omega)⟩
    rcases List.mem_append.1 hm with hm | hm
    · have := key a k hm; omega
    · have := key b k hm; omega
  | pre n u i j y hu hk h1 a ha =>
    rw [asg_pre hu hk, List.map_cons, List.nodup_cons]
    exact ⟨fun hm => by have := key a i hm; omega, ha⟩
  | pos n u i j y hu hk h1 a ha =>
    rw [asg_pos hu hk (by omega), List.map_cons, List.nodup_cons]
    exact ⟨fun hm => by have := key a (j - 1) hm; omega, ha⟩
  | jux n u i k j y z hu hk h1 h2 hz a b ha hb =>
    rw [asg_jux hu hk hz, List.map_append, List.nodup_append]
    exact ⟨ha, hb, disj a b (by omega)⟩
end Go.Proofs.YthpioplpfmlgcaaGreatDoor.El
namespace Go.Proofs.YthpioplpfmlgcaaGreatDoor.Sp
open Go.Proofs.YthpioplpfmlgcaaGreatDoor.At
open Go.RowKit
abbrev trmC (k : Int) (a v : ByteArray) (A : Option Addr) (n cap : Nat) (f : ByteArray) : Array Value := #[.int .i64 k, .string a, .string v, .slice A n cap, .string f]
/-- the five cells of a term with its arguments -/
inductive MAt (w : World) : Trm → Array Value → Prop
  | mk (k : Int) (a v f : ByteArray) (ts : List Trm) (A : Option Addr) (cap : Nat) (ad : Addr) (cs : Nat → Array Value) (ha : a.size ≤ 9223372036854775807) (hv : v.size ≤ 9223372036854775807) (hf : f.size ≤ 9223372036854775807) (hn : ts.length ≤ cap) (hc : cap ≤ 9223372036854775807)
      (hA : ts = [] ∨ (A = some ad ∧ ad.block < w.heap.size)) (hcell : ∀ i, i < ts.length → ∀ j, j < 5 → w.cell? (ad.add (i * 5 + j)) = (cs i)[j]?)
      (hk : ∀ (i : Nat) (h : i < ts.length), MAt w ts[i] (cs i)) : MAt w (.mk k a v f ts) (trmC k a v A ts.length cap f)
/-- terms in a row -/
def ArgsAt (w : World) (A : Option Addr) (ts : List Trm) : Prop := ∀ (i : Nat) (t : Trm), ts[i]? = some t → ∃ ad : Addr, A = some ad ∧ ad.block < w.heap.size ∧ ∃ c, MAt w t c ∧ ∀ j, j < 5 → w.cell? (ad.add (i * 5 + j)) = c[j]?
theorem add_blk (a : Addr) (n : Nat) : (a.add n).block = a.block := by unfold Addr.add; split <;> rfl
theorem MAt.keep {w w' : World} (hb : Below w.heap.size w w') {t : Trm} {c : Array Value} (h : MAt w t c) : MAt w' t c := by
  induction h with
  | mk k a v f ts A cap ad cs ha hv hf hn hc hA hcell hk ih =>
    refine .mk k a v f ts A cap ad cs ha hv hf hn hc (hA.imp id fun ⟨h1, h2⟩ => ⟨h1, Nat.lt_of_lt_of_le h2 hb.size⟩) (fun i hi j hj => ?_) ih
    rcases hA with h | ⟨h1, h2⟩
    · subst h; simp at hi
    · rw [hb.cell (by rw [add_blk]; exact h2)]; exact hcell i hi j hj
theorem ArgsAt.keep {w w' : World} (hb : Below w.heap.size w w') {A : Option Addr} {ts : List Trm} (h : ArgsAt w A ts) : ArgsAt w' A ts := fun i t hi => by
  obtain ⟨ad, h1, h2, c, h3, h4⟩ := h i t hi
  exact ⟨ad, h1, Nat.lt_of_lt_of_le h2 hb.size, c, h3.keep hb, fun j hj => by rw [hb.cell (by rw [add_blk]; exact h2)]; exact h4 j hj⟩
theorem MAt.form {w : World} {t : Trm} {c : Array Value} (h : MAt w t c) : ∃ A cap, c = trmC t.kind t.nam t.vr A t.args.length cap t.form ∧ t.nam.size ≤ 9223372036854775807 ∧ t.vr.size ≤ 9223372036854775807 ∧ t.form.size ≤ 9223372036854775807 ∧ t.args.length ≤ cap ∧ cap ≤ 9223372036854775807 ∧ ArgsAt w A t.args := by
  cases h with
  | mk k a v f ts A cap ad cs ha hv hf hn hc hA hcell hk =>
    refine ⟨A, cap, rfl, ha, hv, hf, hn, hc, fun i t hi => ?_⟩
    obtain ⟨hl, rfl⟩ := List.getElem?_eq_some_iff.1 hi
    rcases hA with h | ⟨h1, h2⟩
    · rw [show (Trm.mk k a v f ts).args = ts from rfl] at hl
      subst h
      simp at hl
    · exact ⟨ad, h1, h2, cs i, hk i hl, hcell i hl⟩
theorem MAt.of {w : World} {k : Int} {a v f : ByteArray} {ts : List Trm} {A : Option Addr} {cap : Nat} (ha : a.size ≤ 9223372036854775807) (hv : v.size ≤ 9223372036854775807) (hf : f.size ≤ 9223372036854775807) (hn : ts.length ≤ cap) (hc : cap ≤ 9223372036854775807) (h : ArgsAt w A ts) : MAt w (.mk k a v f ts) (trmC k a v A ts.length cap f) := by
  cases ts with
  | nil => exact .mk k a v f [] A cap ⟨0, 0, none⟩ (fun _ => #[]) ha hv hf hn hc (.inl rfl) (fun i hi => by simp at hi) (fun i hi => by simp at hi)
  | cons t ts =>
    obtain ⟨ad, hA, hlt, _⟩ := h 0 t rfl
    have hx : ∀ i, ∃ cc : Array Value, ∀ (hi : i < (t :: ts).length), MAt w (t :: ts)[i] cc ∧ ∀ j, j < 5 → w.cell? (ad.add (i * 5 + j)) = cc[j]? := fun i => by
      by_cases hi : i < (t :: ts).length
      · obtain ⟨ad', hA', _, cc, h1, h2⟩ := h i _ (List.getElem?_eq_getElem hi)
        obtain rfl := Option.some.inj (hA.symm.trans hA')
        exact ⟨cc, fun _ => ⟨h1, h2⟩⟩
      · exact ⟨#[], fun h => absurd h hi⟩
    exact .mk k a v f (t :: ts) A cap ad (fun i => (hx i).choose) ha hv hf hn hc (.inr ⟨hA, hlt⟩) (fun i hi => ((hx i).choose_spec hi).2) (fun i hi => ((hx i).choose_spec hi).1)
theorem add_cel {w : World} {a : Addr} {n j : Nat} {v : Option Value} (h : w.cell? (a.add (n + (j + 1))) = v) : w.cell? ⟨(a.add n).block, (a.add n).off + (j + 1), none⟩ = v := by
  rw [← Addr.add_add] at h
  unfold Addr.add at h ⊢
  simpa using h
/-- a term at an address -/
def PtM (w : World) (p : Addr) (t : Trm) (A : Option Addr) (cap : Nat) : Prop :=
  p.block < w.heap.size ∧ w.cell? p = some (.int .i64 t.kind) ∧ w.cell? ⟨p.block, p.off + 1, none⟩ = some (.string t.nam) ∧ w.cell? ⟨p.block, p.off + 2, none⟩ = some (.string t.vr) ∧ w.cell? ⟨p.block, p.off + 3, none⟩ = some (.slice A t.args.length cap) ∧ w.cell? ⟨p.block, p.off + 4, none⟩ = some (.string t.form)
    ∧ t.nam.size ≤ 9223372036854775807 ∧ t.vr.size ≤ 9223372036854775807 ∧ t.form.size ≤ 9223372036854775807 ∧ t.args.length ≤ cap ∧ cap ≤ 9223372036854775807 ∧ ArgsAt w A t.args
theorem PtM.keep {w w' : World} (hb : Below w.heap.size w w') {p : Addr} {t : Trm} {A : Option Addr} {cap : Nat} (h : PtM w p t A cap) : PtM w' p t A cap := by
  obtain ⟨h1, c0, c1, c2, c3, c4, h2, h3, h4, h5, h6, h7⟩ := h
  exact ⟨Nat.lt_of_lt_of_le h1 hb.size, (hb.cell h1).trans c0, (hb.cell (p := ⟨p.block, p.off + 1, none⟩) h1).trans c1, (hb.cell (p := ⟨p.block, p.off + 2, none⟩) h1).trans c2, (hb.cell (p := ⟨p.block, p.off + 3, none⟩) h1).trans c3, (hb.cell (p := ⟨p.block, p.off + 4, none⟩) h1).trans c4, h2, h3, h4, h5, h6, h7.keep hb⟩
theorem PtM.box {w : World} {g : Nat} {t : Trm} {A : Option Addr} {cap : Nat} (hK : Blk w g 31 (trmC t.kind t.nam t.vr A t.args.length cap t.form)) (ha : t.nam.size ≤ 9223372036854775807) (hv : t.vr.size ≤ 9223372036854775807) (hf : t.form.size ≤ 9223372036854775807) (hn : t.args.length ≤ cap) (hc : cap ≤ 9223372036854775807) (h : ArgsAt w A t.args) : PtM w ⟨g, 0, none⟩ t A cap :=
  ⟨hK.lt, hK.cell 0, hK.cell 1, hK.cell 2, hK.cell 3, hK.cell 4, ha, hv, hf, hn, hc, h⟩
theorem PtM.whole {w : World} {p : Addr} {t : Trm} {A : Option Addr} {cap : Nat} (h : PtM w p t A cap) : MAt w t (trmC t.kind t.nam t.vr A t.args.length cap t.form) := by
  obtain ⟨h1, c0, c1, c2, c3, c4, h2, h3, h4, h5, h6, h7⟩ := h
  obtain ⟨k, a, v, f, ts⟩ := t
  exact MAt.of h2 h3 h4 h5 h6 h7
/-- an argument at its place -/
theorem ArgsAt.at_ {w : World} {A : Option Addr} {ts : List Trm} (h : ArgsAt w A ts) {i : Nat} {t : Trm} (hi : ts[i]? = some t) :
    ∃ ad A2 cap2, A = some ad ∧ ad.block < w.heap.size ∧ PtM w (ad.add (i * 5)) t A2 cap2 := by
  obtain ⟨ad, h1, h2, c, h3, h4⟩ := h i t hi
  obtain ⟨A2, cap2, rfl, ha, hv, hf, hn, hc, hk⟩ := h3.form
  exact ⟨ad, A2, cap2, h1, h2, by rw [add_blk]; exact h2, h4 0 (by omega), add_cel (j := 0) (h4 1 (by omega)), add_cel (j := 1) (h4 2 (by omega)), add_cel (j := 2) (h4 3 (by omega)), add_cel (j := 3) (h4 4 (by omega)), ha, hv, hf, hn, hc, hk⟩
theorem ret_int {k : IntKind} {a b : Int} (h : a = b) : Ending.returned (.int k a) = .returned (.int k b) := by rw [h]
end Go.Proofs.YthpioplpfmlgcaaGreatDoor.Sp
namespace Go.Proofs.YthpioplpfmlgcaaGreatDoor
open Go.RowKit
/-- the worlds that extend a world: nothing that was there has turned -/
structure Ext (w : World) where
  val : World
  bel : Below w.heap.size w val
instance (w : World) : Inhabited (Ext w) := ⟨⟨w, Below.refl _ _⟩⟩
theorem Ext.cell {w : World} (e : Ext w) {p : Addr} {v : Value} (hp : p.block < w.heap.size) (h : w.cell? p = some v) : e.val.cell? p = some v := by
  rw [e.bel.cell hp]; exact h
theorem wp_region_ext {P : Program} {id : Nat} {Q : Exit → Act → World → Prop} {a : Act} {w : World} {l : List Oper} (hm : P.follows .mixedOrders = true) (hB : Region.lexB .any l.toArray = true)
    (h : wpQuiet P l.toArray (fun w' => ∃ e : Ext w, w' = e.val) (fun a' => ∀ w', (∃ e : Ext w, w' = e.val) → Q .normal a' w') l a) : (Code.region id l.toArray true).wp P Q a w :=
  wp_region_quiet (C := fun w' => ∃ e : Ext w, w' = e.val) hm hB ⟨⟨_, below_drew (Below.refl _ _)⟩, rfl⟩ (by simpa using h)
/-- a callee's contract, met in a world that extends w -/
theorem Calls.ext {P : Program} {f : FuncId} {args : Array Value} {w : World} {e : Ext w} {v : Value}
    (h : Calls P f args e.val fun r w' => r = .returned v ∧ Below e.val.heap.size e.val w') : Calls P f args e.val fun r w'' => r = .returned v ∧ ∃ e' : Ext w, w'' = e'.val :=
  h.mono fun _ w' hw => ⟨hw.1, ⟨w', e.bel.trans (hw.2.mono e.bel.size)⟩, rfl⟩
end Go.Proofs.YthpioplpfmlgcaaGreatDoor
