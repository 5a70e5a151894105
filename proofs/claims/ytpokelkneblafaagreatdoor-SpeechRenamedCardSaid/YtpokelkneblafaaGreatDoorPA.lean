/- The parts of a spoken name: the program's inner function. -/
import Derived.Test.YtpokelkneblafaaGreatDoorSI
import Derived.Test.YtpokelkneblafaaGreatDoorNA
namespace Go.Proofs.YtpokelkneblafaaGreatDoor
open Go.RowKit
structure Glb (B0 : Nat) (w : World) : Prop where
  tab : ∀ w' : World, Below B0 w w' → Lib.TabIs Tryz.prog w' "internal/strconv.uint64pow10" .u64 Lib.pow10Tab
  len : ∃ m, w.cell? ⟨0, 0, none⟩ = some (.int .i64 m)
  big : 2 ≤ B0
theorem Glb.keep {B0 B : Nat} {w w' : World} (h : Glb B0 w) (hB : B0 ≤ B) (hb : Below B w w') : Glb B0 w' :=
  ⟨fun w2 hb2 => h.tab w2 ((hb.mono hB).trans hb2), by
    obtain ⟨m, hm⟩ := h.len
    exact ⟨m, (hb.cell (p := ⟨0, 0, none⟩) (by show 0 < B; have := h.big; omega)).trans hm⟩, h.big⟩
theorem below_grow' (w : World) (k : Nat) (os : Array Obj) : Below w.heap.size w (Sort.grow (w.drewN k) os) :=
  ⟨rfl, rfl, rfl, by simp [Sort.grow], fun i hi => by
    show (w.heap ++ os)[i]? = w.heap[i]?
    rw [Array.getElem?_append_left hi]⟩
theorem itoa_any (n : Nat) (B0 : Nat) (w : World) (hG : Glb B0 w) (h1 : n ≤ 1000000000000) :
    Calls Tryz.prog 46 #[.int .i64 (n : Int)] w fun e w' => e = .returned (.string (bys (Lib.decDigits n))) ∧ Below w.heap.size w w' :=
  (Tryz.strconv_Itoa n (by omega) (by omega) w (hG.tab w (Below.refl _ _))).mono fun _ _ ⟨he, k, os, hw⟩ => ⟨by rw [he]; unfold Lib.itoa; rw [if_neg (by omega)]; rfl, by rw [hw]; exact below_grow' w k os⟩
theorem psplit_any (s : ByteArray) (B0 : Nat) (w : World) (hG : Glb B0 w) (hs : s.size ≤ 1000000) : Calls Tryz.prog 44 #[.string s, .string ⟨#[32]⟩] w fun e w' => e = .returned (.slice (some ⟨w.heap.size, 0, none⟩) (splitL 32 s.data.toList).length (splitL 32 s.data.toList).length) ∧ Below w.heap.size w w' ∧ Blk w' w.heap.size 9 ((splitL 32 s.data.toList).map (fun p => Value.string (bys p))).toArray := by
  obtain ⟨m, hm⟩ := hG.len
  refine (Tryz.strings_Split s ⟨#[32]⟩ m w (by omega) hm (by decide)).mono ?_
  rintro e w' ⟨rfl, rfl⟩
  rw [countB_one, splitB_one]
  refine ⟨rfl, bel_alloc _ _, ?_⟩
  have := Blk.new w 9 ((splitL 32 s.data.toList).map (fun p => Value.string (bys p))).toArray
  rw [List.map_map]
  exact this
def szP (l : List (List UInt8)) : Nat := (l.map (fun p => p.length + 1)).sum
theorem szP_app (a b : List (List UInt8)) : szP (a ++ b) = szP a + szP b := by simp [szP]
theorem szP_take (l : List (List UInt8)) (k : Nat) : szP (l.take k) ≤ szP l := by
  conv => rhs; rw [← List.take_append_drop k l, szP_app]
  omega
theorem szP_mem {l : List (List UInt8)} {k : Nat} {x : List UInt8} (h : l[k]? = some x) : szP (l.take k) + x.length + 1 ≤ szP l := by
  have h1 : l.take (k + 1) = l.take k ++ [x] := by rw [List.take_add_one, h]; rfl
  have := szP_take l (k + 1)
  rw [h1, szP_app] at this
  simp [szP] at this ⊢
  omega
theorem join_le (l : List (List UInt8)) : (Lib.join l [32]).length ≤ szP l := by
  cases l with
  | nil => simp [Lib.join_nil]
  | cons x r =>
    rw [Lib.join_cons]
    have : (Lib.joinTail [32] r).length = szP r := by
      induction r with
      | nil => rfl
      | cons y r ih =>
        have e : Lib.joinTail [32] (y :: r) = 32 :: (y ++ Lib.joinTail [32] r) := by simp [Lib.joinTail]
        rw [e]
        simp only [List.length_cons, List.length_append, ih]
        simp [szP]
        try omega
    rw [List.length_append, this]
    simp [szP]
    try omega
theorem len_szP (ps : List (List UInt8)) : ps.length ≤ szP ps := by
  induction ps with
  | nil => simp [szP]
  | cons a r ih => simp [szP] at ih ⊢; omega
abbrev sinkV (gb b : Nat) : Value := .func (.func 21) #[] #[.pointer (some ⟨gb, 0, none⟩), .pointer (some ⟨b, 0, none⟩)]
theorem name_small (s : ByteArray) : (nameS s).size ≤ 30 := by
  unfold nameS
  have h : (bys (nameL s.data.toList)).size = (nameL s.data.toList).length := by simp [bys, ByteArray.size]
  rw [h]
  clear h
  generalize s.data.toList = l
  unfold nameL
  by_cases hi : idB l = true
  · rw [if_pos hi]
    have := (id_named hi).2.2
    split
    · simp [wName]; omega
    · split
      · simp [wCap, Lib.toLowerA]; omega
      · omega
  · rw [if_neg hi]; simp
theorem spoken_sz (l : List UInt8) : szP (spokenL l) ≤ 30 := by
  unfold spokenL
  by_cases hi : idB l = true
  · rw [if_pos hi]
    have := (id_named hi).2.2
    split
    · simp [szP, wName]; omega
    · split
      · simp [szP, wCap, Lib.toLowerA]; omega
      · simp [szP]; omega
  · rw [if_neg hi]; simp [szP]
set_option maxRecDepth 100000 in
set_option maxHeartbeats 1600000 in
theorem pname_any (B0 B b gb gp : Nat) (l : List (List UInt8)) (s : ByteArray) (w : World) (hG : Glb B0 w) (hB0 : B0 ≤ B) (hT : TxtAt B b gb l w) (hP : Blk w gp 58 #[sinkV gb b]) (hp1 : gp ≠ b) (hp2 : gp ≠ gb) (hlen : szP l ≤ 100000000000) (hs : s.size ≤ 9223372036854775807) :
    Calls Tryz.prog 43 #[.string s, .pointer (some ⟨gp, 0, none⟩)] w (TookP B b gb (l ++ spokenL s.data.toList) w) := by
  have hBw : B ≤ w.heap.size := Nat.le_of_lt (Nat.lt_of_le_of_lt hT.lo (iF_lt hT.bld))
  have hbw := iF_lt hT.bld
  have hgw := hT.flag.lt
  have HN := Lib.hid (name_small s)
  have HSP := Lib.hid (show splitL 32 (nameS s).data.toList = spokenL s.data.toList by unfold nameS; rw [bys_data, spoken_split])
  have HSZ := Lib.hid (spoken_sz s.data.toList)
  have HG := Lib.hid hG
  have HT := Lib.hid hT
  have HP := Lib.hid hP
  have HX := Lib.hid (And.intro hp1 hp2)
  have HL := Lib.hid hlen
  have HB := Lib.hid hBw
  have HB0 := Lib.hid hB0
  have HBG := Lib.hid (And.intro hbw hgw)
  have HNA := Lib.hid (name_any s w hs)
  clear hG hT hP hp1 hp2 hlen hBw hB0 hbw hgw
  generalize nameS s = ns at *
  generalize spokenL s.data.toList = ps at *
  go_enter Tryz.func43, Tryz.ntmps43
  go_wp2_with fail
  refine HNA.out.mono ?_
  rintro e w1 ⟨rfl, hb⟩
  have B1 := Lib.hid hb
  clear hb
  have HS := Lib.hid (psplit_any ns B0 w1 (HG.out.keep (Nat.le_trans HB0.out HB.out) B1.out) (by have := HN.out; omega))
  rw [HSP.out] at HS
  go_wp2_with fail
  refine HS.out.mono ?_
  rintro e w2 ⟨rfl, hb, hK⟩
  have B2 := Lib.hid (B1.out.trans (hb.mono B1.out.size))
  have KS := Lib.hid hK
  have hsz := B1.out.size
  have HQ1 := Lib.hid (show w1.heap.size ≠ b by have := HBG.out.1; omega)
  have HQ2 := Lib.hid (show w1.heap.size ≠ gb by have := HBG.out.2; omega)
  have T2 := Lib.hid (HT.out.keep B2.out)
  have P2 := Lib.hid (keep B2.out HP.out)
  have X2 := Lib.hid (KeptX.below (b := b) (gb := gb) B2.out)
  have D2 := Lib.hid (B2.out.mono HB.out)
  have hpl : ps.length ≤ 1000 := by
    have h1 := HSZ.out
    have := len_szP ps
    omega
  clear hb hK hsz HS HNA
  generalize w1.heap.size = gs at *
  go_wp2_with fail
  go_loopw [9] (fun i wr => ∃ j : Nat, j ≤ ps.length ∧ i = .int .i64 j ∧ Hid (TxtAt B b gb (l ++ ps.take j) wr) ∧ Hid (Below B w wr) ∧ Hid (KeptX b gb w wr) ∧ Hid (Blk wr gp 58 #[sinkV gb b]) ∧ Hid (Blk wr gs 9 (ps.map (fun p => Value.string (bys p))).toArray)) (fun i _ => ps.length - (intOf i).toNat)
  case atStart => exact ⟨0, by omega, rfl, (by rw [List.take_zero, List.append_nil]; exact T2.out), D2, X2, P2, KS⟩
  case round =>
    clear T2 D2 X2 P2 KS
    obtain ⟨j, hj, rfl, T2, D2, X2, P2, KS⟩ := hrel
    by_cases hlt : j < ps.length
    · obtain ⟨x, hx⟩ : ∃ x, ps[j]? = some x := ⟨_, List.getElem?_eq_getElem hlt⟩
      have c0 := KS.out.cell j
      rw [show ((ps.map (fun p => Value.string (bys p))).toArray)[j]? = some (.string (bys x)) by simp [hx]] at c0
      have c1 := P2.out.cell 0
      have hm := szP_mem hx
      have HTK := Lib.hid (show (l ++ ps.take j) ++ [(bys x).data.toList] = l ++ ps.take (j + 1) by rw [bys_data, List.append_assoc, List.take_add_one, hx]; rfl)
      have HLN := Lib.hid (show (Lib.join (l ++ ps.take j) [32]).length + (bys x).size + 1 ≤ 1000000000000 by
        have h1 := join_le (l ++ ps.take j)
        rw [szP_app] at h1
        have h2 := HL.out
        have h3 := HSZ.out
        have h4 : (bys x).size = x.length := by simp [bys, ByteArray.size]
        omega)
      clear hx hm
      go_wp2_with fail
      refine (sink_any B b gb (l ++ ps.take j) (bys x) wr T2.out HLN.out (Nat.le_trans HB.out D2.out.size)).mono ?_
      rintro e w4 ⟨rfl, hT4, hb4, hk4⟩
      rw [HTK.out] at hT4
      have T4 := Lib.hid hT4
      have D4 := Lib.hid (D2.out.trans hb4)
      have X4 := Lib.hid (X2.out.trans hk4)
      have P4 := Lib.hid (hk4.blk P2.out (by decide) HX.out.1 HX.out.2)
      have K4 := Lib.hid (hk4.blk KS.out (by decide) HQ1.out HQ2.out)
      clear hT4 hb4 hk4 c0 c1
      go_wp2_with fail
      go_roundw
      case rel => exact ⟨j + 1, by omega, by go_num, T4, D4, X4, P4, K4⟩
      case measure => simp [intOf]; omega
    · obtain rfl : j = ps.length := by omega
      rw [List.take_length] at T2
      go_wp2_with fail
      exact bodyPost_ret (v := .tuple #[]) (by simp [results, Tryz.results43, go_sem]) rfl ⟨rfl, T2.out, D2.out, X2.out⟩
end Go.Proofs.YtpokelkneblafaaGreatDoor
