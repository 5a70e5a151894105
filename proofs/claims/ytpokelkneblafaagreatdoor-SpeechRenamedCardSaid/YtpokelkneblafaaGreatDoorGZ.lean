/- The program's parser, its small methods: word, characters, identifier, for texts of up to 100000 bytes. -/
import Derived.Test.YtpokelkneblafaaGreatDoorPA
import Derived.Test.YtpokelkneblafaaGreatDoorPP
import Derived.Test.YtpokelkneblafaaGreatDoorMT
namespace Go.Proofs.YtpokelkneblafaaGreatDoor
open Go.RowKit
structure GlbZ (B0 : Nat) (w : World) : Prop where
  glb : Glb B0 w
  syn : ∃ ev, w.cell? ⟨1, 0, none⟩ = some ev ∧ (ev = .nilIface ∨ ∃ te pe, ev = .iface te pe)
  rng : ∃ ev, w.cell? ⟨2, 0, none⟩ = some ev ∧ (ev = .nilIface ∨ ∃ te pe, ev = .iface te pe)
  rows : ∀ w' : World, Below B0 w w' → Lib.CaseVar 3 Lib.caseA w'
  utf : ∀ w' : World, Below B0 w w' → Lib.Utf8Tabs 5 6 w'
  high : 9 ≤ B0
theorem GlbZ.keep {B0 B : Nat} {w w' : World} (h : GlbZ B0 w) (hB : B0 ≤ B) (hb : Below B w w') : GlbZ B0 w' :=
  ⟨h.glb.keep hB hb, by
    obtain ⟨m, hm, h2⟩ := h.syn
    exact ⟨m, (hb.cell (p := ⟨1, 0, none⟩) (by show 1 < B; have := h.high; omega)).trans hm, h2⟩, by
    obtain ⟨m, hm, h2⟩ := h.rng
    exact ⟨m, (hb.cell (p := ⟨2, 0, none⟩) (by show 2 < B; have := h.high; omega)).trans hm, h2⟩,
    fun w2 hb2 => h.rows w2 ((hb.mono hB).trans hb2), fun w2 hb2 => h.utf w2 ((hb.mono hB).trans hb2), h.high⟩
theorem bytes_below (w : World) (t : ByteArray) : Below w.heap.size w (Lib.bytesWorld w 5 t) := by
  unfold Lib.bytesWorld
  exact Lib.below_freeze ((below_drew (Below.refl _ w)).alloc (Nat.le_refl _) _) (p := ⟨w.heap.size, _, none⟩) (Nat.le_refl _) 1
theorem atoi_some (s : ByteArray) (u : Nat) (w : World) (hs : s.size ≤ 1000000) (hu : atoiN s.data.toList = some u) : Calls Tryz.prog 56 #[.string s] w fun e w' => e = .returned (.tuple #[.int .i64 (u : Int), .nilIface]) ∧ Below w.heap.size w w' := by
  unfold atoiN at hu
  cases h : Lib.atoiAll s.data.toList with
  | ok v =>
    rw [h] at hu
    dsimp only at hu
    split at hu
    · next h0 =>
      injection hu with hu
      refine (Tryz.strconv_Atoi_ok s (by omega) v h w).mono ?_
      rintro e w' ⟨rfl, hw⟩
      refine ⟨by rw [← hu, Int.toNat_of_nonneg h0], ?_⟩
      rcases hw with rfl | ⟨t, rfl⟩
      · exact Below.refl _ _
      · exact bytes_below w t
    · cases hu
  | _ => rw [h] at hu; cases hu
def NoNum (e : Ending) : Prop := ∃ n x, e = .returned (.tuple #[.int .i64 n, x]) ∧ ((n < 0 ∧ x = .nilIface) ∨ ∃ t p, x = .iface t p)
theorem atoi_none {B0 : Nat} (s : ByteArray) (w : World) (hG : GlbZ B0 w) (hs : s.size ≤ 1000000) (hu : atoiN s.data.toList = none) : Calls Tryz.prog 56 #[.string s] w fun e w' => NoNum e ∧ Below w.heap.size w w' := by
  unfold atoiN at hu
  cases h : Lib.atoiAll s.data.toList with
  | ok v =>
    rw [h] at hu
    dsimp only at hu
    split at hu
    · cases hu
    · next h0 =>
      refine (Tryz.strconv_Atoi_ok s (by omega) v h w).mono ?_
      rintro e w' ⟨rfl, hw⟩
      refine ⟨⟨_, _, rfl, .inl ⟨by omega, rfl⟩⟩, ?_⟩
      rcases hw with rfl | ⟨t, rfl⟩
      · exact Below.refl _ _
      · exact bytes_below w t
  | range =>
    obtain ⟨ev, hv, hev⟩ := hG.rng
    refine (Tryz.strconv_Atoi_range s (by omega) h ev w hv hev).mono ?_
    rintro e w' ⟨N, rfl, _, _, hb⟩
    exact ⟨⟨_, _, rfl, .inr ⟨_, _, rfl⟩⟩, hb⟩
  | _ =>
    obtain ⟨ev, hv, hev⟩ := hG.syn
    refine (Any.strconv_Atoi_syntax Tryz.laysC172 s (by omega) h ev w hv hev).mono ?_
    rintro e w' ⟨N, rfl, _, _, hb⟩
    exact ⟨⟨_, _, rfl, .inr ⟨_, _, rfl⟩⟩, hb⟩
theorem upper_any {B0 : Nat} (s : ByteArray) (w : World) (hG : GlbZ B0 w) (hs : s.size ≤ 1000000) : Calls Tryz.prog 58 #[.string s] w fun e w' => e = .returned (.string (bys (Lib.toUpperD s.data.toList))) ∧ Below w.heap.size w w' :=
  Tryz.strings_ToUpper_any s w (by omega) (hG.rows w (Below.refl _ _)) (hG.utf w (Below.refl _ _))
theorem mapGo_len (f : Int → Int) : ∀ (n : Nat) (l : List UInt8), (Lib.mapGoD f n l).length ≤ 4 * n
  | 0, l => by simp [Lib.mapGoD]
  | n + 1, l => by
    rw [Lib.mapGoD]
    split
    · simp
    · have ih := mapGo_len f n (l.drop (Lib.decodeL l).2)
      rw [List.length_append]
      have : (if 0 ≤ f (Lib.decodeL l).1 then Lib.encodeRune (f (Lib.decodeL l).1) else []).length ≤ 4 := by
        split
        · rw [← Lib.runeCells_length]
          have := Lib.runeCells_length (f (Lib.decodeL l).1)
          have h4 := (Lib.encodeRuneZ_length (f (Lib.decodeL l).1)).2
          simp only [Lib.encodeRune] at this
          simp only [List.length_map] at this
          omega
        · simp
      omega
theorem upper_len (l : List UInt8) : (Lib.toUpperD l).length ≤ 4 * l.length := mapGo_len _ _ _
theorem cutl_len (l : List UInt8) : (Lib.cut l [32]).1.length ≤ l.length ∧ (Lib.cut l [32]).2.1.length ≤ l.length := by
  unfold Lib.cut
  split
  · simp only [List.length_take, List.length_drop]; omega
  · simp
theorem wordP_len (s : PS) : (wordP s).1.length ≤ s.rest.length ∧ (wordP s).2.rest.length ≤ s.rest.length ∧ (wordP s).2.cnt = s.cnt := by
  unfold wordP
  split
  · simp
  · exact ⟨(cutl_len _).1, (cutl_len _).2, rfl⟩
theorem trim_len (a b : List UInt8) : (Lib.trimPrefix a b).length ≤ a.length := by
  unfold Lib.trimPrefix
  split <;> simp
theorem charsP_len (w : List UInt8) (s : PS) : (charsP w s).1.length ≤ s.rest.length ∧ (charsP w s).2.rest.length ≤ s.rest.length ∧ (charsP w s).2.cnt = s.cnt := by
  unfold charsP
  split
  · simp
  · split
    · refine ⟨by simp only [List.length_take]; omega, ?_, rfl⟩
      have := trim_len (s.rest.drop ‹Nat›) [32]
      simp only [List.length_drop] at this ⊢
      omega
    · simp
theorem identP_len (w : List UInt8) (s : PS) (hw : w.length ≤ 100000) (hs : s.rest.length ≤ 100000) : (identP w s).1.length ≤ 400000 ∧ (identP w s).2.rest.length ≤ s.rest.length ∧ (identP w s).2.cnt = s.cnt := by
  have h := wordP_len s
  unfold identP
  split
  · exact ⟨by omega, h.2⟩
  · split
    · exact ⟨Nat.le_trans (upper_len _) (by omega), h.2⟩
    · exact ⟨by show w.length ≤ 400000; omega, Nat.le_refl _, rfl⟩
/-- the cells of the parser -/
abbrev psC (s : PS) : Array Value := #[.string (bys s.rest), .bool s.fin, .bool s.bad, .int .i64 (s.cnt : Int)]
theorem bys_len (l : List UInt8) : (bys l).size = l.length := by simp [bys, ByteArray.size]
set_option maxRecDepth 100000 in
set_option maxHeartbeats 800000 in
theorem word_any (gp : Nat) (s : PS) (w : World) (hK : Blk w gp 42 (psC s)) (hs : s.rest.length ≤ 100000) :
    Calls Tryz.prog 33 #[.pointer (some ⟨gp, 0, none⟩)] w fun e w' => e = .returned (.string (bys (wordP s).1)) ∧ Blk w' gp 42 (psC (wordP s).2) ∧ Gr gp w w' := by
  obtain ⟨rest, fin, bad, cnt⟩ := s
  dsimp only [psC] at hK hs
  have c0 := hK.cell 0
  have c1 := hK.cell 1
  have f0 := hK.frozen 0
  have f1 := hK.frozen 1
  have f2 := hK.frozen 2
  have c2 := hK.cell 2
  cases fin
  · have e1 : wordP ⟨rest, false, bad, cnt⟩ = ((Lib.cut rest [32]).1, ⟨(Lib.cut rest [32]).2.1, !(Lib.cut rest [32]).2.2, bad, cnt⟩) := by unfold wordP; rw [if_neg (by simp)]
    have HK := Lib.hid hK
    have HC := Lib.hid (Tryz.strings_Cut_one (bys rest) 32 w (by rw [bys_len]; omega))
    rw [e1]
    dsimp only [psC]
    clear hK e1
    rw [show (bys rest).data.toList = rest from bys_data rest] at HC
    go_enter Tryz.func33, Tryz.ntmps33
    go_wp2_with fail
    refine HC.out.mono ?_
    rintro e w1 ⟨rfl, n, rfl⟩
    go_wp2_with fail
    go_ret
    exact ⟨rfl, ((HK.out.drewN n).set_ 0 _).set_ 1 _, (((Gr.refl gp w).below (below_drewN (Below.refl _ _) n)).set (.inr rfl) _).set (.inr rfl) _⟩
  · have e1 : wordP ⟨rest, true, bad, cnt⟩ = ([], ⟨rest, true, true, cnt⟩) := by unfold wordP; rw [if_pos rfl]
    rw [e1]
    have HK := Lib.hid hK
    clear hK
    go_enter Tryz.func33, Tryz.ntmps33
    go_wp2_with fail
    go_ret
    exact ⟨rfl, HK.out.set_ 2 _, (Gr.refl gp w).set (.inr rfl) _⟩
theorem beq_bys {a l : List UInt8} (h : a ≠ l) : ((bys a).toList == l) = false := by
  rw [beq_eq_false_iff_ne, ByteArray.toList_eq, bys_data]
  exact h
set_option maxRecDepth 100000 in
set_option maxHeartbeats 800000 in
theorem ident_ptr (B0 gp : Nat) (a : List UInt8) (s : PS) (w : World) (hG : GlbZ B0 w) (hB0 : B0 ≤ gp) (hK : Blk w gp 42 (psC s)) (hs : s.rest.length ≤ 100000) :
    Calls Tryz.prog 36 #[.pointer (some ⟨gp, 0, none⟩), .string (bys a)] w fun e w' => e = .returned (.string (bys (identP a s).1)) ∧ Blk w' gp 42 (psC (identP a s).2) ∧ Gr gp w w' := by
  have HW := Lib.hid (word_any gp s w hK hs)
  have HLT := Lib.hid hK.lt
  unfold identP
  by_cases h1 : a = wName
  · rw [if_pos h1]
    subst h1
    have e1 : bys wName = ⟨#[110, 97, 109, 101]⟩ := rfl
    rw [e1]
    clear hK e1
    go_enter Tryz.func36, Tryz.ntmps36
    go_wp2_with fail
    refine HW.out.mono ?_
    rintro e w1 ⟨rfl, hK, hg⟩
    go_wp2_with fail
    go_ret
    exact ⟨rfl, hK, hg⟩
  · rw [if_neg h1]
    have q1 : ((bys a).toList == [110, 97, 109, 101]) = false := beq_bys h1
    clear h1
    by_cases h2 : a = wCap
    · rw [if_pos h2]
      subst h2
      have HL := Lib.hid (Nat.le_trans (wordP_len s).1 hs)
      have HG := Lib.hid hG
      have e1 : bys wCap = ⟨#[99, 97, 112, 105, 116, 97, 108]⟩ := rfl
      rw [e1] at q1 ⊢
      clear hK e1 q1 hG
      go_enter Tryz.func36, Tryz.ntmps36
      go_wp2_with fail
      refine HW.out.mono ?_
      rintro e w1 ⟨rfl, hK, hg⟩
      have HK := Lib.hid hK
      have HGR := Lib.hid hg
      have HU := Lib.hid (upper_any (bys (wordP s).1) w1 (HG.out.keep (B := B0) (Nat.le_refl _) (hg.down (by have := HLT.out; omega) hB0)) (by rw [bys_len]; have := HL.out; omega))
      rw [bys_data] at HU
      clear hK hg
      go_wp2_with fail
      refine HU.out.mono ?_
      rintro e w2 ⟨rfl, hb⟩
      go_wp2_with fail
      go_ret
      exact ⟨rfl, keep hb HK.out, HGR.out.below hb⟩
    · rw [if_neg h2]
      have q2 : ((bys a).toList == [99, 97, 112, 105, 116, 97, 108]) = false := beq_bys h2
      clear h2
      go_enter Tryz.func36, Tryz.ntmps36
      go_wp2_with fail
      go_ret
      exact ⟨rfl, hK, Gr.refl _ _⟩
theorem bys_drop (l : List UInt8) (n : Nat) : (bys l).extract n (bys l).size = bys (l.drop n) := by
  rw [bys_len]
  apply ByteArray.ext
  rw [ByteArray.data_extract]
  simp [bys]
  exact List.take_of_length_le (by simp)
theorem bys_take (l : List UInt8) (n : Nat) : (bys l).extract 0 n = bys (l.take n) := by
  apply ByteArray.ext
  rw [ByteArray.data_extract]
  simp [bys]
theorem cutp_any (l : List UInt8) (w : World) : Calls Tryz.prog 57 #[.string (bys l), .string ⟨#[32]⟩] w fun e w' => e = .returned (.tuple #[.string (bys (Lib.trimPrefix l [32])), .bool (Lib.hasPrefix l [32])]) ∧ w' = w := by
  have h := Tryz.strings_CutPrefix (bys l) ⟨#[32]⟩ w
  rw [bys_data] at h
  exact h
theorem isEmpty_bys (a : List UInt8) : (bys a).toList.isEmpty = a.isEmpty := by rw [ByteArray.toList_eq, bys_data]
set_option maxRecDepth 100000 in
set_option maxHeartbeats 1600000 in
theorem chars_any (B0 gp : Nat) (a : List UInt8) (s : PS) (w : World) (hG : GlbZ B0 w) (hK : Blk w gp 42 (psC s)) (hs : s.rest.length ≤ 100000) (ha : a.length ≤ 100000) :
    Calls Tryz.prog 35 #[.pointer (some ⟨gp, 0, none⟩), .string (bys a)] w fun e w' => e = .returned (.string (bys (charsP a s).1)) ∧ Blk w' gp 42 (psC (charsP a s).2) ∧ Gr gp w w' := by
  obtain ⟨rest, fin, bad, cnt⟩ := s
  dsimp only [psC] at hK hs
  have HS := Lib.hid (show (bys rest).size ≤ 100000 by rw [bys_len]; exact hs)
  cases hn : atoiN a with
  | none =>
    have e1 : charsP a ⟨rest, fin, bad, cnt⟩ = ([], ⟨rest, fin, true, cnt⟩) := by unfold charsP; rw [hn]
    rw [e1]
    have HA := Lib.hid (atoi_none (bys a) w hG (by rw [bys_len]; omega) (by rw [bys_data]; exact hn))
    have HK := Lib.hid hK
    clear hK hn e1 hG
    go_enter Tryz.func35, Tryz.ntmps35
    go_wp2_with fail
    refine HA.out.mono ?_
    rintro e w1 ⟨⟨n, x, rfl, hx⟩, hb⟩
    have K1 := Lib.hid (keep hb HK.out)
    have B1 := Lib.hid hb
    clear hb
    have c0 := K1.out.cell 0
    have c1 := K1.out.cell 1
    have f2 := K1.out.frozen 2
    have c2 := K1.out.cell 2
    rcases hx with ⟨hlt, rfl⟩ | ⟨t, p, rfl⟩
    · go_wp2_with fail
      go_ret
      exact ⟨rfl, K1.out.set_ 2 _, ((Gr.refl gp w).below B1.out).set (.inr rfl) _⟩
    · go_wp2_with fail
      go_ret
      exact ⟨rfl, K1.out.set_ 2 _, ((Gr.refl gp w).below B1.out).set (.inr rfl) _⟩
  | some n =>
    have HA := Lib.hid (atoi_some (bys a) n w (by rw [bys_len]; omega) (by rw [bys_data]; exact hn))
    have HK := Lib.hid hK
    by_cases h1 : n ≤ rest.length
    · cases fin with
      | true =>
        have e1 : charsP a ⟨rest, true, bad, cnt⟩ = ([], ⟨rest, true, true, cnt⟩) := by unfold charsP; rw [hn]; dsimp only; rw [if_neg (by simp)]
        rw [e1]
        have h2 : ¬ ((bys rest).size : Int) < (n : Int) := by rw [bys_len]; omega
        clear hK hn e1 hG
        go_enter Tryz.func35, Tryz.ntmps35
        go_wp2_with fail
        refine HA.out.mono ?_
        rintro e w1 ⟨rfl, hb⟩
        have K1 := Lib.hid (keep hb HK.out)
        have B1 := Lib.hid hb
        clear hb
        have c0 := K1.out.cell 0
        have c1 := K1.out.cell 1
        have f2 := K1.out.frozen 2
        have c2 := K1.out.cell 2
        go_wp2_with fail
        go_ret
        exact ⟨rfl, K1.out.set_ 2 _, ((Gr.refl gp w).below B1.out).set (.inr rfl) _⟩
      | false =>
        have e1 : charsP a ⟨rest, false, bad, cnt⟩ = (rest.take n, ⟨Lib.trimPrefix (rest.drop n) [32], !Lib.hasPrefix (rest.drop n) [32], bad || (!Lib.hasPrefix (rest.drop n) [32] && !(Lib.trimPrefix (rest.drop n) [32]).isEmpty), cnt⟩) := by unfold charsP; rw [hn]; dsimp only; rw [if_pos ⟨h1, rfl⟩]
        rw [e1]
        have h2 : (n : Int) ≤ ((bys rest).size : Int) := by rw [bys_len]; omega
        have h3 : n ≤ (bys rest).size := by rw [bys_len]; exact h1
        clear hK hn e1 hG
        go_enter Tryz.func35, Tryz.ntmps35
        go_wp2_with fail
        refine HA.out.mono ?_
        rintro e w1 ⟨rfl, hb⟩
        have K1 := Lib.hid (keep hb HK.out)
        have B1 := Lib.hid hb
        clear hb
        have c0 := K1.out.cell 0
        have c1 := K1.out.cell 1
        have f2 := K1.out.frozen 2
        have c2 := K1.out.cell 2
        have x1 : (bys rest).extract n (bys rest).size = bys (rest.drop n) := bys_drop rest n
        have x2 : (bys rest).extract 0 n = bys (rest.take n) := bys_take rest n
        have HP := Lib.hid (cutp_any (rest.drop n) w1)
        go_wp2_with fail
        clear x1 x2
        refine HP.out.mono ?_
        rintro e w2 ⟨rfl, rfl⟩
        have BG := Lib.hid ((Gr.refl gp w).below B1.out)
        have f0 := K1.out.frozen 0
        have f1 := K1.out.frozen 1
        cases hp : Lib.hasPrefix (rest.drop n) [32]
        · cases ht : (Lib.trimPrefix (rest.drop n) [32]).isEmpty
          · have q : (bys (Lib.trimPrefix (rest.drop n) [32])).toList.isEmpty = false := by rw [isEmpty_bys]; exact ht
            have q2 : (!(bys (Lib.trimPrefix (rest.drop n) [32])).toList.isEmpty) = true := by rw [q]; rfl
            replace hp := Lib.hid hp
            replace ht := Lib.hid ht
            go_wp2_with fail
            go_ret
            exact ⟨rfl, by simpa [hp.out, ht.out] using ((K1.out.set_ 2 (.bool true)).set_ 0 (.string (bys (Lib.trimPrefix (rest.drop n) [32])))).set_ 1 (.bool true), ((BG.out.set (.inr rfl) _).set (.inr rfl) _).set (.inr rfl) _⟩
          · have q : (bys (Lib.trimPrefix (rest.drop n) [32])).toList.isEmpty = true := by rw [isEmpty_bys]; exact ht
            have q2 : (!(bys (Lib.trimPrefix (rest.drop n) [32])).toList.isEmpty) = false := by rw [q]; rfl
            replace hp := Lib.hid hp
            replace ht := Lib.hid ht
            go_wp2_with fail
            go_ret
            exact ⟨rfl, by simpa [hp.out, ht.out] using (K1.out.set_ 0 (.string (bys (Lib.trimPrefix (rest.drop n) [32])))).set_ 1 (.bool true), (BG.out.set (.inr rfl) _).set (.inr rfl) _⟩
        · replace hp := Lib.hid hp
          go_wp2_with fail
          go_ret
          exact ⟨rfl, by simpa [hp.out] using (K1.out.set_ 0 (.string (bys (Lib.trimPrefix (rest.drop n) [32])))).set_ 1 (.bool false), (BG.out.set (.inr rfl) _).set (.inr rfl) _⟩
    · have e1 : charsP a ⟨rest, fin, bad, cnt⟩ = ([], ⟨rest, fin, true, cnt⟩) := by unfold charsP; rw [hn]; dsimp only; rw [if_neg (fun h => h1 h.1)]
      rw [e1]
      have h2 : ((bys rest).size : Int) < (n : Int) := by rw [bys_len]; omega
      clear hK hn e1 hG
      go_enter Tryz.func35, Tryz.ntmps35
      go_wp2_with fail
      refine HA.out.mono ?_
      rintro e w1 ⟨rfl, hb⟩
      have K1 := Lib.hid (keep hb HK.out)
      have B1 := Lib.hid hb
      clear hb
      have c0 := K1.out.cell 0
      have c1 := K1.out.cell 1
      have f2 := K1.out.frozen 2
      have c2 := K1.out.cell 2
      go_wp2_with fail
      go_ret
      exact ⟨rfl, K1.out.set_ 2 _, ((Gr.refl gp w).below B1.out).set (.inr rfl) _⟩
end Go.Proofs.YtpokelkneblafaaGreatDoor
