/- The reference's symbol and tokens · Tokens of the program and of the reference · The law's small functions: short, same, row, plus -/
import Derived.Test.YthpioplpfmlgcaaGreatDoorH80b80928
import Derived.Test.YthpioplpfmlgcaaGreatDoorH5f6aca22
import Derived.Test.YthpioplpfmlgcaaGreatDoorH9f6b92c3
import Derived.BigQuiet
import Derived.Deep.DeepCutAuto
import Derived.Deep.CutBlock
import Derived.Test.YthpioplpfmlgcaaGreatDoorHba315fb3
import Derived.Test.YthpioplpfmlgcaaGreatDoorH45a8d395
namespace Go.Proofs.YthpioplpfmlgcaaGreatDoor.El
open Go.Proofs.YthpioplpfmlgcaaGreatDoor.At
open Go.Proofs.YthpioplpfmlgcaaGreatDoor.Ch
open Go.Proofs.YthpioplpfmlgcaaGreatDoor.Sp
open Go.Proofs.YthpioplpfmlgcaaGreatDoor.Sy
open Go.RowKit
/-- how many items the base of an item has -/
def kid0L (n : Tre) : Nat := match n.kids with
  | b0 :: _ => b0.kids.length
  | [] => 0
theorem kid0_eq {n b0 : Tre} {ks : List Tre} (h : n.kids = b0 :: ks) : kid0L n = b0.kids.length := by unfold kid0L; rw [h]
theorem con_sy (rs : List Rul) (s : List UInt8) : conB (symOf rs) s = hasSy rs s := sym_has rs s
theorem symOf_few (rs : List Rul) (h : rs.length ≤ 1000000) : (symOf rs).length ≤ 1000000 := by
  have := symOf_len rs rs.length
  rw [List.take_length] at this
  omega
set_option maxRecDepth 100000 in
set_option maxHeartbeats 4000000 in
theorem rsymbol_any (A : Option Addr) (cap : Nat) (rs : List Rul) (n : Tre) (c : Array Value) (w : World) (hR : RulsAt w A rs) (hrn : rs.length ≤ 1000000) (hN : NodAt w n c) (hne : scrB n.kind = true → n.kids ≠ []) : Calls Tryz.prog 80 #[.slice A rs.length cap, .agg c] w fun e w' => e = .returned (.tuple #[.string (unsc n).text, .bool (operB rs n)]) ∧ Below w.heap.size w w' := by
  obtain ⟨A2, cap2, rfl, hsz, hl2, hc2, hk⟩ := hN.form
  have HTZ := Lib.hid (unsc_fit hN)
  have HB := Lib.hid (bel_alloc w (.cells #[.int .i64 n.kind, .string n.text, .int .i64 n.cols, .slice A2 n.kids.length cap2] 25))
  have K1 := Lib.hid (Blk.new w 25 #[.int .i64 n.kind, .string n.text, .int .i64 n.cols, .slice A2 n.kids.length cap2])
  have HR := Lib.hid (hR.keep HB.out)
  have HK := Lib.hid (hk.keep HB.out)
  have HNE := Lib.hid hne
  have hR3 := hR
  clear hR hN hk hne hsz
  go_enter Tryz.func80, Tryz.ntmps80
  go_upto_region 1 with (fail)
  generalize w.alloc (.cells #[.int .i64 n.kind, .string n.text, .int .i64 n.cols, .slice A2 n.kids.length cap2] 25) = w1 at *
  have k0 := K1.out.cell 0
  have k3 := K1.out.cell 3
  go_cut [27] (fun b wc => b = .bool (scrB n.kind && decide (kid0L n = 1)) ∧ wc = w1)
  case first =>
    cases hs : scrB n.kind with
    | true =>
      obtain ⟨b0, ks, hks⟩ : ∃ b0 ks, n.kids = b0 :: ks := by
        cases hq : n.kids with
        | nil => exact absurd hq (HNE.out hs)
        | cons b0 ks => exact ⟨b0, ks, rfl⟩
      obtain ⟨ad, A3, cap3, hA2, hadl, _, hl3, hc3, hk3, hn3, d0, d1, d2, d3⟩ := HK.out.at_ (i := 0) (t := b0) (by rw [hks]; rfl)
      subst hA2
      rw [add_zero'] at d0 d1 d2 d3
      have hpos : (0 : Int) < (n.kids.length : Int) := by rw [hks, List.length_cons]; omega
      have HQ : ((b0.kids.length : Int) == 1) = decide (b0.kids.length = 1) := by
        rw [Bool.eq_iff_iff, beq_iff_eq, decide_eq_true_iff]; omega
      have HSC := Lib.hid (show n.kind = 7 ∨ n.kind = 8 ∨ n.kind = 9 from by unfold scrB at hs; exact of_decide_eq_true hs)
      have HHS := Lib.hid hs
      have HKS := Lib.hid hks
      clear hs hk3 hn3 hks d0 d1 d2
      rcases HSC.out with h | h | h
      · have q7 : (n.kind == 7) = true := beq_iff_eq.2 h
        clear h HSC
        go_wp2_with fail
        go_meet
        exact ⟨by rw [HHS.out, Bool.true_and, kid0_eq HKS.out], rfl⟩
      · have q7 : (n.kind == 7) = false := by rw [h]; rfl
        have q8 : (n.kind == 8) = true := beq_iff_eq.2 h
        clear h HSC
        go_wp2_with fail
        go_meet
        exact ⟨by rw [HHS.out, Bool.true_and, kid0_eq HKS.out], rfl⟩
      · have q7 : (n.kind == 7) = false := by rw [h]; rfl
        have q8 : (n.kind == 8) = false := by rw [h]; rfl
        have q9 : (n.kind == 9) = true := beq_iff_eq.2 h
        clear h HSC
        go_wp2_with fail
        go_meet
        exact ⟨by rw [HHS.out, Bool.true_and, kid0_eq HKS.out], rfl⟩
    | false =>
      have q7 : (n.kind == 7) = false := by unfold scrB at hs; rw [beq_eq_false_iff_ne]; have := of_decide_eq_false hs; omega
      have q8 : (n.kind == 8) = false := by unfold scrB at hs; rw [beq_eq_false_iff_ne]; have := of_decide_eq_false hs; omega
      have q9 : (n.kind == 9) = false := by unfold scrB at hs; rw [beq_eq_false_iff_ne]; have := of_decide_eq_false hs; omega
      have HHS := Lib.hid hs
      clear hs
      go_wp2_with fail
      go_meet
      exact ⟨by rw [HHS.out]; rfl, rfl⟩
  obtain ⟨h27, rfl⟩ := hcut
  obtain ⟨b27, hb27⟩ : ∃ b27, b27 = (scrB n.kind && decide (kid0L n = 1)) := ⟨_, rfl⟩
  rw [← hb27] at h27
  subst h27
  have HB27 := Lib.hid hb27
  clear k0 k3 hb27
  go_upto_if 27 with (fail)
  go_cut [] (fun wd => (∃ A4 cap4, Hid (Blk wd w.heap.size 25 #[.int .i64 (unsc n).kind, .string (unsc n).text, .int .i64 (unsc n).cols, .slice A4 (unsc n).kids.length cap4])) ∧ Hid (Below w.heap.size w wd))
  case first =>
    cases hs : scrB n.kind with
    | false =>
      obtain rfl : b27 = false := by rw [HB27.out, hs]; rfl
      have HU := Lib.hid (unsc_no hs)
      clear hs HB27
      go_wp2_with fail
      go_meet
      exact ⟨⟨A2, cap2, by rw [HU.out]; exact K1⟩, HB⟩
    | true =>
      obtain ⟨b0, ks, hks⟩ : ∃ b0 ks, n.kids = b0 :: ks := by
        cases hq : n.kids with
        | nil => exact absurd hq (HNE.out hs)
        | cons b0 ks => exact ⟨b0, ks, rfl⟩
      have hb1 : b27 = decide (b0.kids.length = 1) := by rw [HB27.out, hs, Bool.true_and, kid0_eq hks]
      clear HB27
      by_cases h1 : b0.kids.length = 1
      · obtain ⟨x, hx⟩ : ∃ x, b0.kids = [x] := List.length_eq_one_iff.1 h1
        obtain ⟨ad, A3, cap3, hA2, hadl, _, hl3, hc3, hk3, hn3, d0, d1, d2, d3⟩ := HK.out.at_ (i := 0) (t := b0) (by rw [hks]; rfl)
        subst hA2
        rw [add_zero'] at d0 d1 d2 d3
        obtain ⟨ad4, A4, cap4, hA3, hadl4, hxz, _, _, _, _, e0, e1, e2, e3⟩ := hk3.at_ (i := 0) (t := x) (by rw [hx]; rfl)
        subst hA3
        rw [add_zero'] at e0 e1 e2 e3
        have HU := Lib.hid (unsc_one hs hks hx)
        have hpos : (0 : Int) < (n.kids.length : Int) := by rw [hks, List.length_cons]; omega
        have k0 := fun i => K1.out.cell i
        have f0 := fun i => K1.out.frozen i
        obtain rfl : b27 = true := by rw [hb1]; exact decide_eq_true h1
        rw [show b0.kids.length = 1 by omega] at d3
        clear hs hks hx h1 hk3 hn3 hb1 d0 d1 d2
        go_wp2_with fail
        go_meet
        have hgr := grown4 wc w.heap.size (.int .i64 x.kind) (.string x.text) (.int .i64 x.cols) (.slice A4 x.kids.length cap4)
        have hse := set4 K1.out (.int .i64 x.kind) (.string x.text) (.int .i64 x.cols) (.slice A4 x.kids.length cap4)
        exact ⟨⟨A4, cap4, by rw [HU.out]; exact Lib.hid hse⟩, Lib.hid (HB.out.grown hgr HB.out.size fun r e => by have := Option.some.inj e; omega)⟩
      · have HU := Lib.hid (unsc_many hks h1)
        obtain rfl : b27 = false := by rw [hb1]; exact decide_eq_false h1
        clear hs hks h1 hb1
        go_wp2_with fail
        go_meet
        exact ⟨⟨A2, cap2, by rw [HU.out]; exact K1⟩, HB⟩
  obtain ⟨⟨A4, cap4, KU⟩, HB2⟩ := hcut
  have HR3 := Lib.hid (hR3.keep HB2.out)
  have HO := Lib.hid (show operB rs n = (decide ((unsc n).kind = 2) && hasSy rs (unsc n).text.data.toList) from rfl)
  clear HB K1 HR HK HNE
  obtain ⟨u, hu⟩ : ∃ u, u = unsc n := ⟨_, rfl⟩
  rw [← hu] at KU HO HTZ
  have HUU := Lib.hid hu
  clear hu
  go_upto_region 3 with (fail)
  by_cases h2 : u.kind = 2
  · have hk2 : (u.kind == 2) = true := beq_iff_eq.2 h2
    have HO2 := Lib.hid (show operB rs n = hasSy rs u.text.data.toList by rw [HO.out, decide_eq_true h2, Bool.true_and])
    clear h2
    refine region_mono (X := Gh) (w0 := _) (by kernel_rfl) [2, 1, 2, 1, 2, 2, 2, 1, 2, 1, 1, 2, 2, 2] [false, false, false, false, false, false, false, false, false, false, false, false, false, false] _ (fun gx => [.pointer (some ⟨w.heap.size, 1, none⟩), .string u.text, .pointer (some ⟨w.heap.size, 0, none⟩), .int .i64 u.kind, .bool true, .bool true, .slice A rs.length cap, gx.v 42, .pointer (some ⟨w.heap.size, 1, none⟩), .string u.text, .bool (hasSy rs u.text.data.toList), .bool (hasSy rs u.text.data.toList), .string u.text, .bool (hasSy rs u.text.data.toList)]) [(7, fun gx wx => ∃ A6 c6, gx.v 42 = .slice A6 (symOf rs).length c6 ∧ StrsO wx A6 (symOf rs))] (fun _ _ => True) Gh.zero (by kernel_rfl) (fun gx => by simp [fin, finOn, dstAt, List.range, List.range.loop, Act.put]; rfl) (fun _ => by kernel_rfl) (MonoAll.cons (fun gx wx w2 ⟨A6, c6, h1, h2⟩ hb => ⟨A6, c6, h1, h2.keep hb⟩) MonoAll.nil) (trivial) ?_ (by kernel_rfl) ?_
    · refine ⟨fun gx wq => ?_, fun gx wq hB hJ hf => ?_, fun gx wq => ?_, fun gx wq hB hJ hf => ?_, fun gx wq => ?_, fun gx wq => ?_, fun gx wq => ?_, fun gx wq hB hJ hf => ?_, fun gx wq => ?_, fun gx wq hB hJ hf => ?_, fun gx wq hB hJ hf => ?_, fun gx wq => ?_, fun gx wq => ?_, fun gx wq => ?_, trivial⟩
      · exact Gives.pure (v := .pointer (some ⟨w.heap.size, 1, none⟩)) (by simp [go_sem, evAct]) rfl
      · have k1 := (keep hB KU.out).cell 1
        exact Gives.still (v := .string u.text) hJ (by kernel_rfl) (by simp [go_sem, evAct, k1]) rfl
      · exact Gives.pure (v := .pointer (some ⟨w.heap.size, 0, none⟩)) (by simp [go_sem, evAct]) rfl
      · have k0 := (keep hB KU.out).cell 0
        exact Gives.still (v := .int .i64 u.kind) hJ (by kernel_rfl) (by simp [go_sem, evAct, k0]) rfl
      · exact Gives.pure (v := .bool true) (by simp [go_sem, evAct, hk2]) rfl
      · exact Gives.pure (v := .bool true) (by kernel_rfl) rfl
      · exact Gives.pure (v := .slice A rs.length cap) (by kernel_rfl) rfl
      · refine Gives.call (f := 123) (args := #[.slice A rs.length cap]) (w' := wq) (by kernel_rfl) ((rsymbols_any A cap rs wq (HR3.out.keep hB) hrn).mono ?_)
        rintro e wz ⟨v6, rfl, ho, hb⟩
        exact ⟨_, rfl, gx.setV 42 v6, rfl, (KeepsV.of_same ⟨.inr (.inr rfl), .inr (.inr rfl), .inr (.inr rfl), .inr (.inr rfl), .inr (.inr rfl), .inr (.inr rfl), .inr (.inr rfl), .inl rfl, .inr (.inr rfl), .inr (.inr rfl), .inr (.inr rfl), .inr (.inr rfl), .inr (.inr rfl), .inr (.inr rfl), trivial⟩), hb, ⟨(by obtain ⟨A6, c6, e6, _, _, hs⟩ := ho.form; exact ⟨A6, c6, e6, hs⟩), trivial⟩, trivial⟩
      · exact Gives.pure (v := .pointer (some ⟨w.heap.size, 1, none⟩)) (by simp [go_sem, evAct]) rfl
      · have k1 := (keep hB KU.out).cell 1
        exact Gives.still (v := .string u.text) hJ (by kernel_rfl) (by simp [go_sem, evAct, k1]) rfl
      · have f42 := hf.1 (by kernel_rfl)
        obtain ⟨A6, c6, e6, hst⟩ := f42
        refine Gives.call (f := 71) (args := #[.slice A6 (symOf rs).length c6, .string u.text]) (w' := wq) (by simp [go_sem, evAct, e6]) ((has_any A6 c6 (symOf rs) u.text wq hst (symOf_few rs hrn)).mono ?_)
        rintro e wz ⟨rfl, rfl⟩
        rw [con_sy]
        exact ⟨_, rfl, gx, rfl, (KeepsV.of_same ⟨.inr (.inr rfl), .inr (.inr rfl), .inr (.inr rfl), .inr (.inr rfl), .inr (.inr rfl), .inr (.inr rfl), .inr (.inr rfl), (by first | exact .inr (.inr rfl) | exact .inr (.inl (by kernel_rfl))), .inr (.inr rfl), .inr (.inr rfl), .inl rfl, .inr (.inr rfl), .inr (.inr rfl), .inr (.inr rfl), trivial⟩), (Below.refl _ _), ⟨.inr fun h => h, trivial⟩, trivial⟩
      · exact Gives.pure (v := .bool (hasSy rs u.text.data.toList)) (by kernel_rfl) rfl
      · exact Gives.pure (v := .string u.text) (by kernel_rfl) rfl
      · exact Gives.pure (v := .bool (hasSy rs u.text.data.toList)) (by kernel_rfl) rfl
    · refine fun gx wq hB hJ hf => ?_
      dsimp only [FactsAll] at hf
      change wpOps _ _ _ [] _ _
      refine wpOps_done ?_
      have HB3 := Lib.hid (HB2.out.trans (hB.mono HB2.out.size))
      clear hB hJ hf
      generalize gx.v 42 = v42 at *
      clear gx
      generalize wq = w9 at *
      go_wp2_with fail
      exact bodyPost_ret (v := .tuple #[.string u.text, .bool (hasSy rs u.text.data.toList)]) (by simp [results, Tryz.results80, go_sem]) rfl ⟨by rw [HO2.out, HUU.out], HB3.out⟩
  · have hk2 : (u.kind == 2) = false := beq_eq_false_iff_ne.2 h2
    have HO2 := Lib.hid (show operB rs n = false by rw [HO.out, decide_eq_false h2, Bool.false_and])
    clear h2
    refine region_mono (X := Gh) (w0 := _) (by kernel_rfl) [2, 1, 2, 1, 2, 2, 0, 0, 0, 0, 0, 2, 2, 2] [false, false, false, false, false, false, false, false, false, false, false, false, false, false] _ (fun gx => [.pointer (some ⟨w.heap.size, 1, none⟩), .string u.text, .pointer (some ⟨w.heap.size, 0, none⟩), .int .i64 u.kind, .bool false, .bool false, undef, undef, undef, undef, undef, .bool false, .string u.text, .bool false]) [] (fun _ _ => True) Gh.zero (by kernel_rfl) (fun gx => by simp [fin, finOn, dstAt, List.range, List.range.loop, Act.put]; rfl) (fun _ => by kernel_rfl) MonoAll.nil (trivial) ?_ (by kernel_rfl) ?_
    · refine ⟨fun gx wq => ?_, fun gx wq hB hJ hf => ?_, fun gx wq => ?_, fun gx wq hB hJ hf => ?_, fun gx wq => ?_, fun gx wq => ?_, fun _ => rfl, fun _ => rfl, fun _ => rfl, fun _ => rfl, fun _ => rfl, fun gx wq => ?_, fun gx wq => ?_, fun gx wq => ?_, trivial⟩
      · exact Gives.pure (v := .pointer (some ⟨w.heap.size, 1, none⟩)) (by simp [go_sem, evAct]) rfl
      · have k1 := (keep hB KU.out).cell 1
        exact Gives.still (v := .string u.text) hJ (by kernel_rfl) (by simp [go_sem, evAct, k1]) rfl
      · exact Gives.pure (v := .pointer (some ⟨w.heap.size, 0, none⟩)) (by simp [go_sem, evAct]) rfl
      · have k0 := (keep hB KU.out).cell 0
        exact Gives.still (v := .int .i64 u.kind) hJ (by kernel_rfl) (by simp [go_sem, evAct, k0]) rfl
      · exact Gives.pure (v := .bool false) (by simp [go_sem, evAct, hk2]) rfl
      · exact Gives.pure (v := .bool false) (by kernel_rfl) rfl
      · exact Gives.pure (v := .bool false) (by kernel_rfl) rfl
      · exact Gives.pure (v := .string u.text) (by kernel_rfl) rfl
      · exact Gives.pure (v := .bool false) (by kernel_rfl) rfl
    · refine fun gx wq hB hJ hf => ?_
      dsimp only [FactsAll] at hf
      change wpOps _ _ _ [] _ _
      refine wpOps_done ?_
      have HB3 := Lib.hid (HB2.out.trans (hB.mono HB2.out.size))
      clear hB hJ hf
      clear gx
      generalize wq = w9 at *
      go_wp2_with fail
      exact bodyPost_ret (v := .tuple #[.string u.text, .bool false]) (by simp [results, Tryz.results80, go_sem]) rfl ⟨by rw [HO2.out, HUU.out], HB3.out⟩
set_option maxRecDepth 100000 in
set_option maxHeartbeats 4000000 in
theorem rtokens_any (A A1 : Option Addr) (cap cap1 : Nat) (rs : List Rul) (l : List Tre) (w : World) (hR : RulsAt w A rs) (hrn : rs.length ≤ 1000000) (hN : KidsAt w A1 l) (hne : ∀ n ∈ l, scrB n.kind = true → n.kids ≠ []) (hn : l.length ≤ 1000000) : Calls Tryz.prog 50 #[.slice A rs.length cap, .slice A1 l.length cap1] w (ToksP rs l w) := by
  obtain ⟨i0, hi, hz0, hz1, hz2⟩ := info_parts info_str
  have HR0 := Lib.hid hR
  have HN0 := Lib.hid hN
  have HNE := Lib.hid hne
  clear hR hN hne
  go_enter Tryz.func50, Tryz.ntmps50
  go_wp2_with fail
  go_loopw [7, 8] (fun v i wr => ∃ (k : Nat) (ts : List ByteArray), k ≤ l.length ∧ i = .int .i64 k ∧ Hid (toksN rs (l.take k) = .inl ts) ∧ Hid (OwnToks wr w.heap.size v ts) ∧ Hid (Below w.heap.size w wr)) (fun _ i _ => l.length - (intOf i).toNat)
  case atStart => exact ⟨0, [], by omega, rfl, Lib.hid rfl, Lib.hid (World.ownsRow_nil _ _ _ _), Lib.hid (Below.refl _ _)⟩
  case round =>
    obtain ⟨k, ts, hk, rfl, HT, HO, HB⟩ := hrel
    by_cases hlt : k < l.length
    · obtain ⟨x, hx⟩ : ∃ x, l[k]? = some x := ⟨_, List.getElem?_eq_getElem hlt⟩
      obtain ⟨ad, A3, cap3, rfl, hadl, hsz, hl3, hc3, hk3, hn3, d0, d1, d2, d3⟩ := (HN0.out.keep HB.out).at_ hx
      have HX := Lib.hid hx
      have HXZ := Lib.hid hsz
      have HNEX := Lib.hid (HNE.out x (List.mem_of_getElem? hx))
      have HLEN := Lib.hid (show ts.length = k by have := toksN_len HT.out; rw [List.length_take] at this; omega)
      have HNX := Lib.hid hn3
      clear hx hn3 hk3 hsz
      go_wp2_with fail
      refine (rsymbol_any A cap rs x _ wr (HR0.out.keep HB.out) hrn HNX.out HNEX.out).mono ?_
      rintro e w2 ⟨rfl, hb⟩
      obtain ⟨cs2, HO2⟩ : ∃ _ : Unit, Hid (OwnToks w2 w.heap.size u7 ts) := ⟨(), Lib.hid (World.ownsRow.kept (row := none) HO.out ⟨hb.os, hb.tape, hb.output, hb.size, fun i hi _ => hb.block i hi⟩ (by cases u7.ownBlock <;> simp))⟩
      have NB1 := Lib.hid (HB.out.trans (hb.mono HB.out.size))
      have HFIT := Lib.hid (show (unsc x).text.size ≤ 9223372036854775807 from unsc_fit HNX.out)
      replace d0 := (hb.cell (p := ad.add (k * 4)) (by rw [block_of_add]; exact hadl)).trans d0
      replace d1 := (hb.cell (p := ⟨(ad.add (k * 4)).block, (ad.add (k * 4)).off + 1, none⟩) (by show (ad.add (k * 4)).block < _; rw [block_of_add]; exact hadl)).trans d1
      clear hb HO HB HNX d2 d3
      have HB := NB1
      obtain ⟨A2, cap2, rfl, hcl2, hcap2, _⟩ : ∃ A2 cap2, u7 = .slice A2 ts.length cap2 ∧ ts.length ≤ cap2 ∧ cap2 ≤ 9223372036854775807 ∧ True := by
        obtain ⟨h1, h2⟩ := HO2.out
        rcases h2 with ⟨rfl, h0⟩ | ⟨gq, cap, cur, rfl, hg, hb, hn, hc, hs, ht⟩
        · exact ⟨none, 0, by rw [h0], by omega, by omega, trivial⟩
        · exact ⟨_, cap, rfl, by omega, by unfold maxLen at *; omega, trivial⟩
      cases hop : operB rs x
      · by_cases h2 : x.kind = 2
        · have q2 : (x.kind == 2) = true := beq_iff_eq.2 h2
          have HRO := Lib.hid (show rolB rs x = idB x.text.data.toList by unfold rolB; rw [hop, decide_eq_true h2]; rfl)
          have HTK := Lib.hid (show tokS rs x = hashS by unfold tokS; rw [hop]; rfl)
          clear h2 hop
          go_wp2_with fail
          refine (rident_any x.text w2 HXZ.out).mono ?_
          rintro e w4 ⟨rfl, hb⟩
          obtain ⟨cs3, HO3⟩ : ∃ _ : Unit, Hid (OwnToks w4 w.heap.size (.slice A2 ts.length cap2) ts) := ⟨(), Lib.hid (World.ownsRow.kept (row := none) HO2.out ⟨hb.os, hb.tape, hb.output, hb.size, fun i hi _ => hb.block i hi⟩ (by cases (Value.slice A2 ts.length cap2).ownBlock <;> simp))⟩
          replace HB := Lib.hid (HB.out.trans (hb.mono HB.out.size))
          clear hb HO2 d0 d1
          have HO2 := HO3
          clear HO3
          generalize w4 = w2 at *
          rw [ByteArray.toList_eq]
          cases hid : idB x.text.data.toList
          · have HS := Lib.hid (toksN_stop HX.out HT.out (by rw [HRO.out]; exact hid))
            clear hid
            go_wp2_with fail
            exact bodyPost_ret (v := .tuple #[.slice none 0 0, .int .i64 (k : Int), .bool false]) (by simp [results, Tryz.results50, go_sem]) rfl ⟨by rw [HS.out], HB.out⟩
          · have HS := Lib.hid (toksN_snoc HX.out HT.out (by rw [HRO.out]; exact hid))
            rw [HTK.out] at HS
            clear hid
            have hown := World.ownsRow.alloc HO2.out (.cells #[.string hashS] 9)
            have HBL := Lib.hid (World.ownsRow.lt HO2.out)
            have HSZ := Lib.hid HB.out.size
            go_wp2_with (at_builtin; refine wpList_append_own _ rfl (.tmp 26) (.tmp 27) 39 rfl w.heap.size 9 i0 (.string ⟨#[]⟩) 1 16 Tryz.underlying39 hi hz0 hz1 hz2 rfl (by decide) _ _ _ rfl hown ⟨w2.heap.size, 0, none⟩ 1 1 [.string hashS] rfl rfl (Ch.cells_new _ _ _) ?c2a ?c3a ?c4a ?c5a ?_)
            case c2a => intro u hu; simp at hu; subst hu; rfl
            case c3a => have := HLEN.out; unfold maxLen; omega
            case c4a => have := HLEN.out; omega
            case c5a => have := HSZ.out; simp; omega
            intro v' w3 hown' hgrow _
            have NB := Lib.hid ((HB.out.alloc HB.out.size (.cells #[.string hashS] 9)).grown hgrow (by have := HSZ.out; simp; omega) (fun k hk => (HBL.out k hk).1))
            have NO := Lib.hid (OwnToks.snoc rfl rfl hown')
            clear hown hown' hgrow HO2 HB
            go_wp2_with fail
            go_roundw
            case rel => exact ⟨k + 1, ts ++ [hashS], by omega, by go_num, HS, NO, NB⟩
            case measure => simp [intOf]; omega
        · have q2 : (x.kind == 2) = false := beq_eq_false_iff_ne.2 h2
          have HS := Lib.hid (toksN_snoc HX.out HT.out (by unfold rolB; rw [hop, decide_eq_false h2]; rfl))
          have HTK := Lib.hid (show tokS rs x = hashS by unfold tokS; rw [hop]; rfl)
          rw [HTK.out] at HS
          clear h2 hop
          have hown := World.ownsRow.alloc HO2.out (.cells #[.string hashS] 9)
          have HBL := Lib.hid (World.ownsRow.lt HO2.out)
          have HSZ := Lib.hid HB.out.size
          go_wp2_with (at_builtin; refine wpList_append_own _ rfl (.tmp 26) (.tmp 27) 39 rfl w.heap.size 9 i0 (.string ⟨#[]⟩) 1 16 Tryz.underlying39 hi hz0 hz1 hz2 rfl (by decide) _ _ _ rfl hown ⟨w2.heap.size, 0, none⟩ 1 1 [.string hashS] rfl rfl (Ch.cells_new _ _ _) ?c2a ?c3a ?c4a ?c5a ?_)
          case c2a => intro u hu; simp at hu; subst hu; rfl
          case c3a => have := HLEN.out; unfold maxLen; omega
          case c4a => have := HLEN.out; omega
          case c5a => have := HSZ.out; simp; omega
          intro v' w3 hown' hgrow _
          have NB := Lib.hid ((HB.out.alloc HB.out.size (.cells #[.string hashS] 9)).grown hgrow (by have := HSZ.out; simp; omega) (fun k hk => (HBL.out k hk).1))
          have NO := Lib.hid (OwnToks.snoc rfl rfl hown')
          clear hown hown' hgrow HO2 HB
          go_wp2_with fail
          go_roundw
          case rel => exact ⟨k + 1, ts ++ [hashS], by omega, by go_num, HS, NO, NB⟩
          case measure => simp [intOf]; omega
      · have HS := Lib.hid (toksN_snoc HX.out HT.out (by unfold rolB; rw [hop]; rfl))
        have HTK := Lib.hid (show tokS rs x = (unsc x).text by unfold tokS; rw [hop]; rfl)
        rw [HTK.out] at HS
        clear hop
        generalize (unsc x).text = tx at *
        have hown := World.ownsRow.alloc HO2.out (.cells #[.string tx] 9)
        have HBL := Lib.hid (World.ownsRow.lt HO2.out)
        have HSZ := Lib.hid HB.out.size
        go_wp2_with (at_builtin; refine wpList_append_own _ rfl (.tmp 31) (.tmp 33) 39 rfl w.heap.size 9 i0 (.string ⟨#[]⟩) 1 16 Tryz.underlying39 hi hz0 hz1 hz2 rfl (by decide) _ _ _ rfl hown ⟨w2.heap.size, 0, none⟩ 1 1 [.string tx] rfl rfl (Ch.cells_new _ _ _) ?c2a ?c3a ?c4a ?c5a ?_)
        case c2a => intro u hu; simp at hu; subst hu; rfl
        case c3a => have := HLEN.out; unfold maxLen; omega
        case c4a => have := HLEN.out; omega
        case c5a => have := HSZ.out; simp; omega
        intro v' w3 hown' hgrow _
        have NB := Lib.hid ((HB.out.alloc HB.out.size (.cells #[.string tx] 9)).grown hgrow (by have := HSZ.out; simp; omega) (fun k hk => (HBL.out k hk).1))
        have NO := Lib.hid (OwnToks.snoc rfl rfl hown')
        clear hown hown' hgrow HO2 HB
        go_wp2_with fail
        go_roundw
        case rel => exact ⟨k + 1, ts ++ [tx], by omega, by go_num, HS, NO, NB⟩
        case measure => simp [intOf]; omega
    · obtain rfl : k = l.length := by omega
      have HT := Lib.hid (show toksN rs l = .inl ts by have := HT.out; rwa [List.take_length] at this)
      go_wp2_with fail
      exact bodyPost_ret (v := .tuple #[u7, .int .i64 0, .bool true]) (by simp [results, Tryz.results50, go_sem]) rfl ⟨by rw [HT.out]; exact ⟨_, rfl, HO.out⟩, HB.out⟩
end Go.Proofs.YthpioplpfmlgcaaGreatDoor.El
namespace Go.Proofs.YthpioplpfmlgcaaGreatDoor.El
open Go.Proofs.YthpioplpfmlgcaaGreatDoor.At
open Go.Proofs.YthpioplpfmlgcaaGreatDoor.Ch
open Go.Proofs.YthpioplpfmlgcaaGreatDoor.Sp
open Go.Proofs.YthpioplpfmlgcaaGreatDoor.Sy
open Go.RowKit
def rowT (l : List Tre) : Tre := .mk 1 ⟨#[]⟩ 0 l
/-- behind Tokens, of both sides -/
def TokP (rs : List Rul) (l : List Tre) (w : World) (e : Ending) (w' : World) : Prop := (if (validB rs && validT (rowT l)) = true then (match toksN rs l with
  | .inl ts => ∃ v, e = .returned (.tuple #[v, .int .i64 0, .int .i64 0]) ∧ OwnToks w' w.heap.size v ts
  | .inr i => e = .returned (.tuple #[.slice none 0 0, .int .i64 (i : Int), .int .i64 15])) else e = .returned (.tuple #[.slice none 0 0, .int .i64 0, .int .i64 1])) ∧ Below w.heap.size w w'
theorem row_kids {l : List Tre} (h : validT (rowT l) = true) : ∀ n ∈ l, scrB n.kind = true → n.kids ≠ [] := by
  intro n hn hs
  have hf : formL 1 l = true := by
    unfold validT rowT at h
    simp only [Bool.and_eq_true] at h
    have h2 := h.2.1
    rw [formT, Bool.and_eq_true] at h2
    exact h2.2
  have key : ∀ (ts : List Tre), formL 1 ts = true → n ∈ ts → formT n = true := by
    intro ts
    induction ts with
    | nil => intro _ h; cases h
    | cons x ts ih =>
      intro h hm
      rw [formL] at h
      simp only [Bool.and_eq_true] at h
      rcases List.mem_cons.1 hm with rfl | hm
      · exact h.2.1
      · exact ih h.2.2 hm
  have h3 := key l hf hn
  obtain ⟨k, s, c, ks⟩ := n
  rw [formT, Bool.and_eq_true, ownT, Bool.and_eq_true] at h3
  have h4 := h3.1.2
  unfold scrB at hs
  have hk : k = 7 ∨ k = 8 ∨ k = 9 := of_decide_eq_true hs
  rintro (e : ks = [])
  rw [e] at h4
  unfold kidsB at h4
  rw [if_neg (by omega), Bool.and_eq_true, if_neg (by omega), if_neg (by omega)] at h4
  rcases hk with hk | hk | hk
  · rw [if_pos (by omega)] at h4; exact absurd (of_decide_eq_true h4.2) (by simp)
  · rw [if_pos (by omega)] at h4; exact absurd (of_decide_eq_true h4.2) (by simp)
  · rw [if_neg (by omega), if_pos hk] at h4; exact absurd (of_decide_eq_true h4.2) (by simp)
set_option maxRecDepth 100000 in
set_option maxHeartbeats 4000000 in
theorem ptoks_any (A A1 : Option Addr) (cap cap1 : Nat) (rs : List Rul) (l : List Tre) (w : World) (hR : RulsAt w A rs) (hrn : rs.length ≤ 1000000) (hK : KidsAt w A1 l) (hlc : l.length ≤ cap1) (hlm : cap1 ≤ 9223372036854775807) (hln : l.length ≤ 1000000) (hrc : rs.length ≤ cap) (hcc : cap ≤ 9223372036854775807) : Calls Tryz.prog 26 #[.slice A rs.length cap, .slice A1 l.length cap1] w (TokP rs l w) := by
  have HR := Lib.hid hR
  have HK := Lib.hid hK
  clear hR hK
  go_enter Tryz.func26, Tryz.ntmps26
  go_upto_region 1 with (fail)
  cases hv : validB rs with
  | false =>
    have HV := Lib.hid hv
    have HO := Lib.hid (show ¬ ((validB rs && validT (rowT l)) = true) by rw [hv]; simp)
    clear hv
    go_wp2_with fail
    refine (valid_any A cap rs w (HR.out) hrc hcc).mono ?_
    rintro e wa ⟨rfl, hB⟩
    rw [HV.out]
    generalize wa = wq at *
    have HB := Lib.hid (show Below w.heap.size w wq from hB)
    clear hB
    generalize wq = w2 at *
    go_wp2_with fail
    exact bodyPost_ret (v := .tuple #[.slice none 0 0, .int .i64 0, .int .i64 1]) (by simp [results, Tryz.results26, go_sem]) rfl (show TokP _ _ _ _ _ by unfold TokP; rw [if_neg HO.out]; exact ⟨rfl, HB.out⟩)
  | true =>
    have HV := Lib.hid hv
    cases ht : validT (rowT l) with
    | false =>
      have HT := Lib.hid ht
      have HO := Lib.hid (show ¬ ((validB rs && validT (rowT l)) = true) by rw [ht]; simp)
      clear hv ht
      go_wp2_with fail
      refine (valid_any A cap rs w (HR.out) hrc hcc).mono ?_
      rintro e wa ⟨rfl, hB⟩
      rw [HV.out]
      go_wp2_with fail
      refine (nitems_any A1 cap1 l wa (HK.out.keep hB) hlc hlm).mono ?_
      rintro e wq ⟨rfl, hC⟩
      rw [show Tre.mk 1 ⟨#[]⟩ 0 l = rowT l from rfl, HT.out]
      replace hB := hB.trans (hC.mono hB.size)
      clear hC
      have HB := Lib.hid (show Below w.heap.size w wq from hB)
      clear hB
      generalize wq = w2 at *
      go_wp2_with fail
      exact bodyPost_ret (v := .tuple #[.slice none 0 0, .int .i64 0, .int .i64 1]) (by simp [results, Tryz.results26, go_sem]) rfl (show TokP _ _ _ _ _ by unfold TokP; rw [if_neg HO.out]; exact ⟨rfl, HB.out⟩)
    | true =>
      have HT := Lib.hid ht
      have HO := Lib.hid (show (validB rs && validT (rowT l)) = true by rw [hv, ht]; rfl)
      clear hv ht
      go_wp2_with fail
      refine (valid_any A cap rs w (HR.out) hrc hcc).mono ?_
      rintro e wa ⟨rfl, hB⟩
      rw [HV.out]
      go_wp2_with fail
      refine (nitems_any A1 cap1 l wa (HK.out.keep hB) hlc hlm).mono ?_
      rintro e wq ⟨rfl, hC⟩
      rw [show Tre.mk 1 ⟨#[]⟩ 0 l = rowT l from rfl, HT.out]
      replace hB := hB.trans (hC.mono hB.size)
      clear hC
      have HB := Lib.hid (show Below w.heap.size w wq from hB)
      clear hB
      generalize wq = w2 at *
      go_wp2_with fail
      refine (newReader_any A cap rs w2 (HR.out.keep HB.out) hrn).mono ?_
      rintro e w3 ⟨g, rfl, hrd, hb⟩
      have HRD := Lib.hid hrd
      have HB3 := Lib.hid (HB.out.trans (hb.mono HB.out.size))
      clear hrd hb
      go_wp2_with fail
      refine (tokens_any g A A1 cap cap1 rs l w3 HRD.out (HK.out.keep HB3.out) (row_kids HT.out) hln).mono ?_
      rintro e w4 ⟨hm, hb⟩
      have HB4 := Lib.hid (HB3.out.trans (hb.mono HB3.out.size))
      have HBZ := Lib.hid HB3.out.size
      clear hb
      cases htk : toksN rs l with
      | inr ib =>
        rw [htk] at hm
        subst hm
        have HQ := Lib.hid htk
        clear htk
        go_wp2_with fail
        exact bodyPost_ret (v := .tuple #[.slice none 0 0, .int .i64 (ib : Int), .int .i64 15]) (by simp [results, Tryz.results26, go_sem]) rfl (show TokP _ _ _ _ _ by unfold TokP; rw [if_pos HO.out, HQ.out]; exact ⟨rfl, HB4.out⟩)
      | inl ts =>
        rw [htk] at hm
        obtain ⟨v, rfl, ho⟩ := hm
        have HQ := Lib.hid htk
        have HV4 := Lib.hid (Ch.own_more ho HBZ.out)
        clear htk ho
        go_wp2_with fail
        exact bodyPost_ret (v := .tuple #[v, .int .i64 0, .int .i64 0]) (by simp [results, Tryz.results26, go_sem]) rfl (show TokP _ _ _ _ _ by unfold TokP; rw [if_pos HO.out, HQ.out]; exact ⟨⟨_, rfl, HV4.out⟩, HB4.out⟩)
set_option maxRecDepth 100000 in
set_option maxHeartbeats 4000000 in
theorem rtoks_any (A A1 : Option Addr) (cap cap1 : Nat) (rs : List Rul) (l : List Tre) (w : World) (hR : RulsAt w A rs) (hrn : rs.length ≤ 1000000) (hK : KidsAt w A1 l) (hlc : l.length ≤ cap1) (hlm : cap1 ≤ 9223372036854775807) (hln : l.length ≤ 1000000) (hct : countL l < 900000) : Calls Tryz.prog 24 #[.slice A rs.length cap, .slice A1 l.length cap1] w (TokP rs l w) := by
  have HR := Lib.hid hR
  have HK := Lib.hid hK
  clear hR hK
  go_enter Tryz.func24, Tryz.ntmps24
  go_upto_region 1 with (fail)
  cases hv : validB rs with
  | false =>
    have HV := Lib.hid hv
    have HO := Lib.hid (show ¬ ((validB rs && validT (rowT l)) = true) by rw [hv]; simp)
    clear hv
    go_wp2_with fail
    refine (Go.Proofs.YthpioplpfmlgcaaGreatDoor.rvalid_any A cap rs w (HR.out) hrn).mono ?_
    rintro e wa ⟨rfl, hB⟩
    rw [HV.out]
    generalize wa = wq at *
    have HB := Lib.hid (show Below w.heap.size w wq from hB)
    clear hB
    generalize wq = w2 at *
    go_wp2_with fail
    exact bodyPost_ret (v := .tuple #[.slice none 0 0, .int .i64 0, .int .i64 1]) (by simp [results, Tryz.results24, go_sem]) rfl (show TokP _ _ _ _ _ by unfold TokP; rw [if_neg HO.out]; exact ⟨rfl, HB.out⟩)
  | true =>
    have HV := Lib.hid hv
    cases ht : validT (rowT l) with
    | false =>
      have HT := Lib.hid ht
      have HO := Lib.hid (show ¬ ((validB rs && validT (rowT l)) = true) by rw [ht]; simp)
      clear hv ht
      go_wp2_with fail
      refine (Go.Proofs.YthpioplpfmlgcaaGreatDoor.rvalid_any A cap rs w (HR.out) hrn).mono ?_
      rintro e wa ⟨rfl, hB⟩
      rw [HV.out]
      go_wp2_with fail
      refine (ritems_any A1 cap1 l wa (HK.out.keep hB) hlc hlm hct).mono ?_
      rintro e wq ⟨rfl, hC⟩
      rw [show Tre.mk 1 ⟨#[]⟩ 0 l = rowT l from rfl, HT.out]
      replace hB := hB.trans (hC.mono hB.size)
      clear hC
      have HB := Lib.hid (show Below w.heap.size w wq from hB)
      clear hB
      generalize wq = w2 at *
      go_wp2_with fail
      exact bodyPost_ret (v := .tuple #[.slice none 0 0, .int .i64 0, .int .i64 1]) (by simp [results, Tryz.results24, go_sem]) rfl (show TokP _ _ _ _ _ by unfold TokP; rw [if_neg HO.out]; exact ⟨rfl, HB.out⟩)
    | true =>
      have HT := Lib.hid ht
      have HO := Lib.hid (show (validB rs && validT (rowT l)) = true by rw [hv, ht]; rfl)
      clear hv ht
      go_wp2_with fail
      refine (Go.Proofs.YthpioplpfmlgcaaGreatDoor.rvalid_any A cap rs w (HR.out) hrn).mono ?_
      rintro e wa ⟨rfl, hB⟩
      rw [HV.out]
      go_wp2_with fail
      refine (ritems_any A1 cap1 l wa (HK.out.keep hB) hlc hlm hct).mono ?_
      rintro e wq ⟨rfl, hC⟩
      rw [show Tre.mk 1 ⟨#[]⟩ 0 l = rowT l from rfl, HT.out]
      replace hB := hB.trans (hC.mono hB.size)
      clear hC
      have HB := Lib.hid (show Below w.heap.size w wq from hB)
      clear hB
      generalize wq = w2 at *
      go_wp2_with fail
      refine (rtokens_any A A1 cap cap1 rs l w2 (HR.out.keep HB.out) hrn (HK.out.keep HB.out) (row_kids HT.out) hln).mono ?_
      rintro e w4 ⟨hm, hb⟩
      have HB4 := Lib.hid (HB.out.trans (hb.mono HB.out.size))
      have HBZ := Lib.hid HB.out.size
      clear hb
      cases htk : toksN rs l with
      | inr ib =>
        rw [htk] at hm
        subst hm
        have HQ := Lib.hid htk
        clear htk
        go_wp2_with fail
        exact bodyPost_ret (v := .tuple #[.slice none 0 0, .int .i64 (ib : Int), .int .i64 15]) (by simp [results, Tryz.results24, go_sem]) rfl (show TokP _ _ _ _ _ by unfold TokP; rw [if_pos HO.out, HQ.out]; exact ⟨rfl, HB4.out⟩)
      | inl ts =>
        rw [htk] at hm
        obtain ⟨v, rfl, ho⟩ := hm
        have HQ := Lib.hid htk
        have HV4 := Lib.hid (Ch.own_more ho HBZ.out)
        clear htk ho
        go_wp2_with fail
        exact bodyPost_ret (v := .tuple #[v, .int .i64 0, .int .i64 0]) (by simp [results, Tryz.results24, go_sem]) rfl (show TokP _ _ _ _ _ by unfold TokP; rw [if_pos HO.out, HQ.out]; exact ⟨⟨_, rfl, HV4.out⟩, HB4.out⟩)
end Go.Proofs.YthpioplpfmlgcaaGreatDoor.El
namespace Go.Proofs.YthpioplpfmlgcaaGreatDoor.El
open Go.Proofs.YthpioplpfmlgcaaGreatDoor.At
open Go.Proofs.YthpioplpfmlgcaaGreatDoor.Ch
open Go.Proofs.YthpioplpfmlgcaaGreatDoor.Sp
open Go.Proofs.YthpioplpfmlgcaaGreatDoor.Sy
open Go.RowKit
def briefR (r : Rul) : Bool := decide (r.sym.size ≤ 50) && decide (r.nam.size ≤ 50)
/-- at most 40 rules with short strings -/
def short40 (rs : List Rul) : Bool := rs.all briefR && decide (rs.length ≤ 40)
theorem short40_rule {rs : List Rul} {k : Nat} {x : Rul} (hx : rs[k]? = some x) (h : briefR x = false) : short40 rs = false := by
  unfold short40
  rw [show rs.all briefR = false from List.all_eq_false.2 ⟨x, List.mem_of_getElem? hx, by rw [h]; simp⟩]
  rfl
theorem short40_all {rs : List Rul} (h1 : ∀ (j : Nat) x, rs[j]? = some x → j < rs.length → briefR x = true) : short40 rs = decide (rs.length ≤ 40) := by
  unfold short40
  rw [show rs.all briefR = true from List.all_eq_true.2 fun x hx => by
    obtain ⟨j, hj⟩ := List.mem_iff_getElem?.1 hx
    exact h1 j x hj (List.getElem?_eq_some_iff.1 hj).1, Bool.true_and]
theorem short40_of {rs : List Rul} (h : short40 rs = true) : rs.length ≤ 40 := by
  unfold short40 at h
  rw [Bool.and_eq_true] at h
  exact of_decide_eq_true h.2
set_option maxRecDepth 100000 in
set_option maxHeartbeats 1600000 in
theorem short40_any (A : Option Addr) (cap : Nat) (rs : List Rul) (w : World) (hR : RulsAt w A rs) (hn : rs.length ≤ 9223372036854775807) : Calls Tryz.prog 11 #[.slice A rs.length cap] w fun e w' => e = .returned (.bool (short40 rs)) ∧ w = w' := by
  have HR := Lib.hid hR
  have HA := Lib.hid (@short40_all rs)
  clear hR
  go_enter Tryz.func11, Tryz.ntmps11
  go_wp2_with fail
  go_loop [3] (fun i => ∃ k : Nat, k ≤ rs.length ∧ i = .int .i64 k ∧ Hid (∀ (j : Nat) x, rs[j]? = some x → j < k → briefR x = true)) (fun i => rs.length - (intOf i).toNat)
  case atStart => exact ⟨0, by omega, rfl, (fun j _ _ h => by omega)⟩
  case round =>
    obtain ⟨k, hk, rfl, HJ⟩ := hrel
    by_cases hlt : k < rs.length
    · obtain ⟨x, hx⟩ : ∃ x, rs[k]? = some x := ⟨_, List.getElem?_eq_getElem hlt⟩
      obtain ⟨hf, ad, rfl, hadl, c0, c1, c2, c3, c4, c5⟩ := HR.out.at_ hx
      have HX := Lib.hid hx
      clear hx hf
      by_cases h1 : 50 < x.sym.size
      · have HQ := Lib.hid (short40_rule HX.out (show briefR x = false by unfold briefR; rw [decide_eq_false (by omega)]; rfl))
        go_wp2_with fail
        go_ret
        exact ⟨ret_bool HQ.out.symm, rfl⟩
      · by_cases h2 : 50 < x.nam.size
        · have HQ := Lib.hid (short40_rule HX.out (show briefR x = false by unfold briefR; rw [decide_eq_false (p := x.nam.size ≤ 50) (by omega), Bool.and_false]))
          go_wp2_with fail
          go_ret
          exact ⟨ret_bool HQ.out.symm, rfl⟩
        · have HQ : Hid (briefR x = true) := by
            show briefR x = true
            unfold briefR; rw [decide_eq_true (by omega), decide_eq_true (by omega)]; rfl
          go_wp2_with fail
          go_round
          case rel => exact ⟨k + 1, by omega, by go_num, (fun j y hj h => by
            rcases Nat.lt_or_ge j k with h' | h'
            · exact HJ.out j y hj h'
            · obtain rfl : j = k := by omega
              rw [HX.out] at hj
              obtain rfl := Option.some.inj hj
              exact HQ.out)⟩
          case measure => simp [intOf]; omega
    · obtain rfl : k = rs.length := by omega
      have HA := Lib.hid (HA.out HJ.out)
      go_wp2_with fail
      go_ret
      exact ⟨ret_bool (by rw [HA.out]; exact decide_eq_decide.2 (by omega)), rfl⟩
theorem PathAt.at_ {w : World} {A : Option Addr} {p : List Int} (h : PathAt w A p) {k : Nat} {x : Int} (hk : p[k]? = some x) : ∃ ad, A = some ad ∧ ad.block < w.heap.size ∧ w.cell? (ad.add k) = some (.int .i64 x) := by
  have hkl := (List.getElem?_eq_some_iff.1 hk).1
  obtain ⟨_, h2⟩ := h
  obtain ⟨ad, h3, h4, h5⟩ := h2 (by omega)
  refine ⟨ad, h3, h4, ?_⟩
  have := h5 k (.int .i64 x) (by rw [ints, List.getElem?_map, hk]; rfl)
  exact this
theorem list_ext' {p q : List Int} (hl : p.length = q.length) (h : ∀ j, j < p.length → p[j]? = q[j]?) : p = q := by
  refine List.ext_getElem? fun j => ?_
  rcases Nat.lt_or_ge j p.length with h' | h'
  · exact h j h'
  · rw [List.getElem?_eq_none h', List.getElem?_eq_none (by omega)]
set_option maxRecDepth 100000 in
set_option maxHeartbeats 1600000 in
theorem same_any (A B : Option Addr) (ca cb : Nat) (p q : List Int) (w : World) (hp : PathAt w A p) (hq : PathAt w B q) (hpl : p.length ≤ 1000000) : Calls Tryz.prog 15 #[.slice A p.length ca, .slice B q.length cb] w fun e w' => e = .returned (.bool (decide (p = q))) ∧ Below w.heap.size w w' := by
  have HP := Lib.hid hp
  have HQ := Lib.hid hq
  clear hp hq
  go_enter Tryz.func15, Tryz.ntmps15
  by_cases hl : p.length = q.length
  · have q1 : ((p.length : Int) != (q.length : Int)) = false := by rw [hl, bne, beq_self_eq_true]; rfl
    have HL := Lib.hid hl
    clear hl
    go_wp2_with fail
    go_loopw [5] (fun i wr => ∃ k : Nat, k ≤ p.length ∧ i = .int .i64 k ∧ Hid (∀ j, j < k → p[j]? = q[j]?) ∧ Hid (Below w.heap.size w wr)) (fun i _ => p.length - (intOf i).toNat)
    case atStart => exact ⟨0, by omega, rfl, (fun j h => by omega), Below.refl _ _⟩
    case round =>
      obtain ⟨k, hk, rfl, HJ, HW⟩ := hrel
      by_cases hlt : k < p.length
      · obtain ⟨x, hx⟩ : ∃ x, p[k]? = some x := ⟨_, List.getElem?_eq_getElem hlt⟩
        obtain ⟨y, hy⟩ : ∃ y, q[k]? = some y := ⟨_, List.getElem?_eq_getElem (by rw [← HL.out]; exact hlt)⟩
        obtain ⟨ad, rfl, _, c0⟩ := (HP.out.keep HW.out).at_ hx
        obtain ⟨bd, rfl, _, c1⟩ := (HQ.out.keep HW.out).at_ hy
        have i1 : (0 : Int) ≤ (k : Int) := by omega
        have i2 : (k : Int) < (p.length : Int) := by omega
        have i3 : (k : Int) < (q.length : Int) := by have := HL.out; omega
        have HX := Lib.hid hx
        have HY := Lib.hid hy
        clear hx hy
        cases hxy : (x == y)
        · have hq2 : (x != y) = true := by rw [bne, hxy]; rfl
          have HE := Lib.hid (show decide (p = q) = false from decide_eq_false fun e => by
            rw [beq_eq_false_iff_ne] at hxy
            have h1 := HX.out
            rw [e, HY.out] at h1
            exact hxy (Option.some.inj h1).symm)
          go_wp2_with fail
          go_quiet (fail)
          have HW := Lib.hid (below_drewN HW.out nq)
          clear c0 c1 hxy hq2
          go_wp2_with fail
          go_ret
          exact ⟨ret_bool HE.out.symm, HW.out⟩
        · have hq2 : (x != y) = false := by rw [bne, hxy]; rfl
          have HE := Lib.hid (beq_iff_eq.1 hxy)
          go_wp2_with fail
          go_quiet (fail)
          have HW := Lib.hid (below_drewN HW.out nq)
          clear c0 c1 hxy hq2
          go_wp2_with fail
          go_roundw
          case rel => exact ⟨k + 1, by omega, by go_num, (fun j h => by
            rcases Nat.lt_or_ge j k with h' | h'
            · exact HJ.out j h'
            · obtain rfl : j = k := by omega
              rw [HX.out, HY.out, HE.out]), HW⟩
          case measure => simp [intOf]; omega
      · obtain rfl : k = p.length := by omega
        have HE := Lib.hid (show decide (p = q) = true from decide_eq_true (list_ext' HL.out HJ.out))
        go_wp2_with fail
        go_ret
        exact ⟨ret_bool HE.out.symm, HW.out⟩
  · have q1 : ((p.length : Int) != (q.length : Int)) = true := by rw [bne, beq_eq_false_iff_ne.2 (by omega)]; rfl
    have HE := Lib.hid (show decide (p = q) = false from decide_eq_false fun e => hl (by rw [e]))
    clear hl
    go_wp2_with fail
    go_ret
    exact ⟨ret_bool HE.out.symm, Below.refl _ _⟩
set_option maxRecDepth 100000 in
set_option maxHeartbeats 1600000 in
theorem row_any (A : Option Addr) (n cap : Nat) (w : World) : Calls Tryz.prog 21 #[.slice A n cap] w fun e w' => e = .returned (.agg #[.int .i64 1, .string ⟨#[]⟩, .int .i64 0, .slice A n cap]) ∧ Below w.heap.size w w' := by
  have HB := Lib.hid (bel_alloc w (.cells #[.int .i64 0, .string ⟨#[]⟩, .int .i64 0, .slice none 0 0] 25))
  have K1 := Lib.hid (Blk.new w 25 #[.int .i64 0, .string ⟨#[]⟩, .int .i64 0, .slice none 0 0])
  go_enter Tryz.func21, Tryz.ntmps21
  go_upto_region 1 with (fail)
  generalize w.alloc (.cells #[.int .i64 0, .string ⟨#[]⟩, .int .i64 0, .slice none 0 0] 25) = w1 at *
  have k0 := fun i => K1.out.cell i
  have f0 := fun i => K1.out.frozen i
  go_wp2_with fail
  have KR := Lib.hid (set4 K1.out (.int .i64 1) (.string ⟨#[]⟩) (.int .i64 0) (.slice A n cap))
  have HG := grown4 w1 w.heap.size (.int .i64 1) (.string ⟨#[]⟩) (.int .i64 0) (.slice A n cap)
  have HB4 := Lib.hid (HB.out.grown HG HB.out.size fun r e => by have := Option.some.inj e; omega)
  clear HG
  generalize (((w1.setCell ⟨w.heap.size, 0, none⟩ (.int .i64 1)).setCell ⟨w.heap.size, 1, none⟩ (.string ⟨#[]⟩)).setCell ⟨w.heap.size, 2, none⟩ (.int .i64 0)).setCell ⟨w.heap.size, 3, none⟩ (.slice A n cap) = w2 at *
  have r0 := KR.out.cell 0
  have r1 := KR.out.cell 1
  have r2 := KR.out.cell 2
  have r3 := KR.out.cell 3
  exact bodyPost_ret (v := .agg #[.int .i64 1, .string ⟨#[]⟩, .int .i64 0, .slice A n cap]) (by simp [results, Tryz.results21, go_sem, r0, r1, r2, r3]) rfl ⟨rfl, HB4.out⟩
/-- the one rule of plus -/
def plusR : Rul := ⟨1, ⟨#[43]⟩, ⟨#[112, 108, 117, 115]⟩, 40, 40, 41⟩
abbrev plusC : Array Value := #[.int .i64 1, .string ⟨#[43]⟩, .string ⟨#[112, 108, 117, 115]⟩, .int .i64 40, .int .i64 40, .int .i64 41]
set_option maxRecDepth 100000 in
set_option maxHeartbeats 1600000 in
theorem plus_any (w : World) : Calls Tryz.prog 32 #[] w fun e w' => e = .returned (.slice (some ⟨w.heap.size, 0, none⟩) 1 1) ∧ w' = w.alloc (.cells plusC 50) := by
  go_enter Tryz.func32, Tryz.ntmps32
  go_wp2_with fail
  exact bodyPost_ret (v := .slice (some ⟨w.heap.size, 0, none⟩) 1 1) (by simp [results, Tryz.results32, go_sem]) rfl ⟨rfl, rfl⟩
end Go.Proofs.YthpioplpfmlgcaaGreatDoor.El
