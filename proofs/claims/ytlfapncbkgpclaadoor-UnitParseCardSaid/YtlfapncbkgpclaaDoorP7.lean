/- UnitText and UnitParse return true for every dimension and every string. -/
import Derived.Test.YtlfapncbkgpclaaDoorP6
import Derived.Test.YtlfapncbkgpclaaDoorG
namespace Go.Proofs.YtlfapncbkgpclaaDoor
open Go.RowKit
set_option maxRecDepth 100000 in
set_option maxHeartbeats 4000000 in
theorem utext_bad (d : D7) (w : World) (haw : Awake w) (hG : Glb w) (hd : d.ok = false) : Calls Tryd.prog 9 #[d.v] w fun e w' => e = .returned (.bool true) ∧ Below w.heap.size w w' := by
  have HD := Lib.hid hd
  have HG := Lib.hid hG
  clear hd hG
  go_enter Tryd.func9, Tryd.ntmps9
  go_wp2_with fail
  refine (haw _ (bel_alloc _ _)).mono ?_
  rintro e w1 ⟨rfl, hb⟩
  clear haw
  have K0 := Lib.hid (keep hb (Blk.new w 23 d.c))
  have H0 := Lib.hid ((bel_alloc w (.cells d.c 23)).trans (hb.mono (by simp)))
  clear hb
  have c0 := fun i => K0.out.cell i
  have l0 := K0.out.lt
  go_wp2_with fail
  refine (text_any d _ (HG.out.keep H0.out).tab).mono ?_
  rintro e w2 ⟨rfl, hb⟩
  rw [show textAll d = ⟨#[]⟩ by unfold textAll; rw [HD.out]; rfl]
  have N0 := Lib.hid (keep hb K0.out)
  have NB := Lib.hid (H0.out.trans (hb.mono H0.out.size))
  clear K0 H0 hb c0 l0
  go_wp2_with fail
  refine (parse_any ⟨#[]⟩ _ (HG.out.keep NB.out) (by decide)).mono ?_
  rintro e w3 ⟨rfl, hb⟩
  rw [show parseOf (candP (splitL 32 (⟨#[]⟩ : ByteArray).data.toList)) ⟨#[]⟩ = none from parse_empty]
  have K0 := Lib.hid (keep hb N0.out)
  have H0 := Lib.hid (NB.out.trans (hb.mono NB.out.size))
  clear N0 NB hb
  have c0 := fun i => K0.out.cell i
  have l0 := K0.out.lt
  unfold pV
  go_wp2_with fail
  refine (rvalid_any d _).mono ?_
  rintro e w' ⟨rfl, rfl⟩
  rw [HD.out]
  have N0 := Lib.hid ((K0.out.alloc (.cells D7.zero.c 23)).alloc (.cells d.c 23))
  have NB := Lib.hid ((H0.out.alloc H0.out.size (.cells D7.zero.c 23)).alloc (by have := H0.out.size; simp; omega) (.cells d.c 23))
  clear K0 H0 c0 l0
  have c0 := fun i => N0.out.cell i
  have l0 := N0.out.lt
  go_wp2_with fail
  refine (valid_any d _).mono ?_
  rintro e w' ⟨rfl, rfl⟩
  rw [HD.out]
  go_wp2_with fail
  go_ret
  exact ⟨rfl, NB.out.alloc NB.out.size _⟩
set_option maxRecDepth 100000 in
set_option maxHeartbeats 4000000 in
theorem utext_ok (d : D7) (w : World) (haw : Awake w) (hG : Glb w) (hd : d.ok = true) : Calls Tryd.prog 9 #[d.v] w fun e w' => e = .returned (.bool true) ∧ Below w.heap.size w w' := by
  have HD := Lib.hid hd
  have HG := Lib.hid hG
  have hself := beq_self
  have heq := eq_dim
  clear hd hG
  go_enter Tryd.func9, Tryd.ntmps9
  go_wp2_with fail
  refine (haw _ (bel_alloc _ _)).mono ?_
  rintro e w1 ⟨rfl, hb⟩
  clear haw
  have K0 := Lib.hid (keep hb (Blk.new w 23 d.c))
  have H0 := Lib.hid ((bel_alloc w (.cells d.c 23)).trans (hb.mono (by simp)))
  clear hb
  have c0 := fun i => K0.out.cell i
  have l0 := K0.out.lt
  go_wp2_with fail
  refine (text_any d _ (HG.out.keep H0.out).tab).mono ?_
  rintro e w2 ⟨rfl, hb⟩
  rw [show textAll d = textB d by unfold textAll; rw [HD.out]; rfl]
  have N0 := Lib.hid (keep hb K0.out)
  have NB := Lib.hid (H0.out.trans (hb.mono H0.out.size))
  clear K0 H0 hb c0 l0
  have HL := Lib.hid (text_len d HD.out)
  go_wp2_with fail
  refine (parse_any (textB d) _ (HG.out.keep NB.out) (Nat.le_trans HL.out (by omega))).mono ?_
  rintro e w3 ⟨rfl, hb⟩
  rw [parse_text d HD.out]
  have K0 := Lib.hid (keep hb N0.out)
  have H0 := Lib.hid (NB.out.trans (hb.mono NB.out.size))
  clear N0 NB hb
  have c0 := fun i => K0.out.cell i
  have l0 := K0.out.lt
  have HA : Hid (textAll d = textB d) := by unfold textAll; rw [HD.out]; rfl
  generalize textB d = tb at *
  unfold pV
  go_wp2_with fail
  refine (rvalid_any d _).mono ?_
  rintro e w' ⟨rfl, rfl⟩
  rw [HD.out]
  have N0 := Lib.hid ((K0.out.alloc (.cells d.c 23)).alloc (.cells d.c 23))
  have N1 := Lib.hid ((Blk.new w3 23 d.c).alloc (.cells d.c 23))
  have NB := Lib.hid ((H0.out.alloc H0.out.size (.cells d.c 23)).alloc (by have := H0.out.size; simp; omega) (.cells d.c 23))
  clear K0 H0 c0 l0
  have c0 := fun i => N0.out.cell i
  have l0 := N0.out.lt
  go_wp2_with fail
  refine (rtext_any d _).mono ?_
  rintro e w4 ⟨rfl, hb⟩
  rw [HA.out]
  have M0 := Lib.hid (keep hb N0.out)
  have M1 := Lib.hid (keep hb N1.out)
  have MB := Lib.hid (NB.out.trans (hb.mono NB.out.size))
  clear N0 N1 NB hb c0 l0
  have c0 := fun i => M0.out.cell i
  have l0 := M0.out.lt
  go_wp2_with fail
  refine (valid_any d _).mono ?_
  rintro e w' ⟨rfl, rfl⟩
  rw [HD.out]
  have N0 := Lib.hid (M0.out.alloc (.cells d.c 23))
  have N1 := Lib.hid (M1.out.alloc (.cells d.c 23))
  have NB := Lib.hid (MB.out.alloc MB.out.size (.cells d.c 23))
  clear M0 M1 MB c0 l0
  have c0 := fun i => N0.out.cell i
  have l0 := N0.out.lt
  have c1 := fun i => N1.out.cell i
  have l1 := N1.out.lt
  go_wp2_with fail
  go_ret
  exact ⟨rfl, NB.out⟩
theorem parse_some {c d : D7} {s : ByteArray} (h : parseOf c s = some d) : textAll d = s := by
  unfold parseOf at h
  split at h
  · rename_i hc
    obtain rfl := Option.some.inj h
    unfold textAll
    rw [hc.1]; exact hc.2
  · cases h
set_option maxRecDepth 100000 in
set_option maxHeartbeats 4000000 in
theorem uparse_walk (s : ByteArray) (w : World) (haw : Awake w) (hG : Glb w) (hs : s.size ≤ 9223372036854775807) : Calls Tryd.prog 10 #[.string s] w fun e w' => e = .returned (.bool true) ∧ Below w.heap.size w w' := by
  have HG := Lib.hid hG
  have hself := beq_self
  have heq := eq_dim
  clear hG
  by_cases hl : 200 < s.size
  · go_enter Tryd.func10, Tryd.ntmps10
    go_wp2_with fail
    refine (haw _ (Below.refl _ _)).mono ?_
    rintro e w1 ⟨rfl, hb⟩
    clear haw
    have H0 := Lib.hid hb
    clear hb
    go_wp2_with fail
    go_ret
    exact ⟨rfl, H0.out⟩
  · have HPS := Lib.hid (parse_same s)
    go_enter Tryd.func10, Tryd.ntmps10
    go_wp2_with fail
    refine (haw _ (Below.refl _ _)).mono ?_
    rintro e w1 ⟨rfl, hb⟩
    clear haw
    have H0 := Lib.hid hb
    clear hb
    go_wp2_with fail
    refine (parse_any s _ (HG.out.keep H0.out) (by omega)).mono ?_
    rintro e w2 ⟨rfl, hb⟩
    have NB := Lib.hid (H0.out.trans (hb.mono H0.out.size))
    clear H0 hb
    rw [HPS.out]
    generalize hr : parseOf (candR (splitL 32 s.data.toList)) s = r
    have HR := Lib.hid hr
    clear hr
    cases r with
    | none =>
      unfold pV
      go_wp2_with fail
      refine (rparse_any s _ (by omega)).mono ?_
      rintro e w3 ⟨rfl, hb⟩
      rw [HR.out]
      have K0 := Lib.hid (keep hb (Blk.new w2 23 D7.zero.c))
      have H0 := Lib.hid ((NB.out.alloc NB.out.size _).trans (hb.mono (by have := NB.out.size; simp; omega)))
      clear NB hb
      have c0 := fun i => K0.out.cell i
      have l0 := K0.out.lt
      unfold pV
      go_wp2_with fail
      go_ret
      exact ⟨rfl, H0.out.alloc H0.out.size _⟩
    | some c =>
      have HT := Lib.hid (parse_some HR.out)
      unfold pV
      go_wp2_with fail
      refine (rparse_any s _ (by omega)).mono ?_
      rintro e w3 ⟨rfl, hb⟩
      rw [HR.out]
      have K0 := Lib.hid (keep hb (Blk.new w2 23 c.c))
      have H0 := Lib.hid ((NB.out.alloc NB.out.size _).trans (hb.mono (by have := NB.out.size; simp; omega)))
      clear NB hb
      have c0 := fun i => K0.out.cell i
      have l0 := K0.out.lt
      unfold pV
      go_wp2_with fail
      refine (text_any c _ (HG.out.keep (H0.out.alloc H0.out.size _)).tab).mono ?_
      rintro e w4 ⟨rfl, hb⟩
      rw [HT.out]
      have NB := Lib.hid ((H0.out.alloc H0.out.size _).trans (hb.mono (by have := H0.out.size; simp; omega)))
      clear H0 hb K0 c0 l0
      go_wp2_with fail
      go_ret
      exact ⟨rfl, NB.out⟩
theorem utext_walk (d : D7) (w : World) (haw : Awake w) (hG : Glb w) : Calls Tryd.prog 9 #[d.v] w fun e w' => e = .returned (.bool true) ∧ Below w.heap.size w w' := by
  cases hd : d.ok
  · exact utext_bad d w haw hG hd
  · exact utext_ok d w haw hG hd
end Go.Proofs.YtlfapncbkgpclaaDoor
