/- ChartParts: the walk. -/
import Derived.Test.YtmhddlhlniajpaaRP8
import Derived.Test.YtmhddlhlniajpaaCM
namespace Go.Proofs.Ytmhddlhlniajpaa
open Go.RowKit
theorem info_str : (Try.prog.info? 9).map (fun i => (i.zero, i.size, i.bytes)) = some (some (.string ⟨#[]⟩), 1, 16) := by kernel_rfl
/-- tokens that this call has made -/
def OwnS (w : World) (B : Nat) (v : Value) (ts : List ByteArray) : Prop := w.ownsRow B 9 1 v ts.length (ts.map Value.string)
theorem OwnS.snoc {w : World} {B n : Nat} {v : Value} {ts us : List ByteArray} (hn : ts.length = n) (h : w.ownsRow B 9 1 v (n + us.length) (ts.map Value.string ++ us.map Value.string)) : OwnS w B v (ts ++ us) := by
  unfold OwnS
  rw [List.length_append, hn, List.map_append]
  exact h
theorem OwnS.form {w : World} {B : Nat} {v : Value} {ts : List ByteArray} (h : OwnS w B v ts) (hf : ∀ s ∈ ts, s.size ≤ 9223372036854775807) : ∃ A cap, v = .slice A ts.length cap ∧ ts.length ≤ cap ∧ cap ≤ 9223372036854775807 ∧ ToksAt w A ts := by
  obtain ⟨h1, h2⟩ := h
  rcases h2 with ⟨rfl, h0⟩ | ⟨g, cap, cur, rfl, hg, hb, hn, hc, hs, ht⟩
  · obtain rfl : ts = [] := List.length_eq_zero_iff.1 h0
    exact ⟨none, 0, rfl, by simp, by omega, fun j p hj => by simp at hj⟩
  · have hb' : Blk w g 9 cur := hb
    refine ⟨_, cap, rfl, hn, by unfold maxLen at hc; omega, fun j p hj => ⟨hf p (List.mem_of_getElem? hj), ⟨g, 0, none⟩, rfl, hb'.lt, ?_⟩⟩
    rw [show (⟨g, 0, none⟩ : Addr).add j = ⟨g, j, none⟩ by unfold Addr.add; split <;> simp_all, hb'.cell]
    have h3 : (ts.map Value.string)[j]? = some (.string p) := by simp [hj]
    rw [← ht, List.getElem?_take] at h3
    split at h3
    · simpa using h3
    · cases h3
theorem reads_toks {w : World} {A : Option Addr} {ts : List ByteArray} (h : ToksAt w A ts) {k : Nat} (hk : k ≤ ts.length) : Reads w w.heap.size 1 A k ((ts.take k).map Value.string) := by
  refine ⟨by rw [List.length_map, List.length_take]; omega, fun h0 => ?_⟩
  obtain ⟨s, hs⟩ : ∃ s, ts[0]? = some s := ⟨_, List.getElem?_eq_getElem (by omega)⟩
  obtain ⟨_, ad, rfl, hlt, _⟩ := h 0 s hs
  refine ⟨ad, rfl, hlt, fun j u hj => ?_⟩
  rw [List.getElem?_map] at hj
  cases hc : (ts.take k)[j]? with
  | none => rw [hc] at hj; cases hj
  | some s' =>
    rw [hc] at hj
    obtain rfl := Option.some.inj hj
    rw [List.getElem?_take] at hc
    split at hc
    · obtain ⟨_, ad', e, _, hcell⟩ := h j s' hc
      obtain rfl := Option.some.inj e
      exact hcell
    · cases hc
theorem strs_one {ts : List ByteArray} : ∀ u ∈ ts.map Value.string, u.oneCell' = true := by
  intro u hu
  obtain ⟨s, _, rfl⟩ := List.mem_map.1 hu
  rfl
/-- while the list is made -/
def InvJ (wr : World) (ts pt : List ByteArray) (k : Nat) : List Bool → Nat × Value × Value × Value → World → Prop
  | [b0, b1, b2, b3], gx, wq => Below wr.heap.size wr wq ∧ (b0 = true → b1 = false → OwnS wq wr.heap.size (.slice (some ⟨gx.1, 0, none⟩) 0 0) []) ∧ (b1 = true → b2 = false → OwnS wq wr.heap.size gx.2.1 (ts.take k)) ∧ (b2 = true → b3 = false → OwnS wq wr.heap.size gx.2.2.1 (ts.take k ++ pt)) ∧ (b3 = true → OwnS wq wr.heap.size gx.2.2.2 (joinT ts pt k))
  | _, _, _ => False
set_option maxRecDepth 100000 in
set_option maxHeartbeats 4000000 in
theorem parts_walk (A T U : Option Addr) (cap cT cU m : Nat) (rs : List Rul) (ts pt : List ByteArray) (w : World) (hR : RulsAt w A rs) (hT : ToksAt w T ts) (hU : ToksAt w U pt) (hc : rs.length ≤ cap) (hcap : cap ≤ 9223372036854775807) (hc1 : ts.length ≤ cT) (hcap1 : cT ≤ 9223372036854775807) (hc2 : pt.length ≤ cU) (hcap2 : cU ≤ 9223372036854775807) (hm : m < 256) : Calls Try.prog 5 #[.slice A rs.length cap, .agg #[.slice T ts.length cT, .slice U pt.length cU], .int .u8 m] w fun e w' => e = .returned (.bool true) ∧ Below w.heap.size w w' := by
  obtain ⟨i0, hi, hz0, hz1, hz2⟩ := info_parts info_str
  have hba := bel_alloc w (.cells #[.slice T ts.length cT, .slice U pt.length cU] 39)
  have K1 := Lib.hid (Blk.new w 39 #[.slice T ts.length cT, .slice U pt.length cU])
  have HR := Lib.hid (hR.keep hba)
  have HT := Lib.hid (hT.keep hba)
  have HU := Lib.hid (hU.keep hba)
  have HB := Lib.hid hba
  have hrl : rs.length ≤ 9223372036854775807 := by omega
  have htl : ts.length ≤ 9223372036854775807 := by omega
  have hpl : pt.length ≤ 9223372036854775807 := by omega
  clear hR hT hU hba
  go_enter Try.func5, Try.ntmps5
  go_wp2_with fail
  generalize w.alloc (.cells #[.slice T ts.length cT, .slice U pt.length cU] 39) = w0 at *
  refine (awake_any _).mono ?_
  rintro e w1 ⟨rfl, hb⟩
  have K1 := Lib.hid (keep hb K1.out)
  have HR := Lib.hid (HR.out.keep hb)
  have HT := Lib.hid (HT.out.keep hb)
  have HU := Lib.hid (HU.out.keep hb)
  have HB := Lib.hid (HB.out.trans (hb.mono HB.out.size))
  clear hb
  have c0 := K1.out.cell 0
  have c1 := K1.out.cell 1
  go_wp2_with fail
  go_quiet (fail)
  have hbq := below_drewN (Below.refl w1.heap.size w1) nq
  have HR := Lib.hid (HR.out.keep hbq)
  have HT := Lib.hid (HT.out.keep hbq)
  have HU := Lib.hid (HU.out.keep hbq)
  have HB := Lib.hid (HB.out.trans (hbq.mono HB.out.size))
  clear hbq K1 c0 c1
  generalize w1.drewN nq = w2 at *
  go_wp2_with fail
  refine (short_any A T cap cT rs ts 12 _ HR.out HT.out (by omega) (by omega)).mono ?_
  rintro e w3 ⟨rfl, rfl⟩
  cases q1 : shortB rs ts 12
  · go_wp2_with fail
    go_ret
    exact ⟨rfl, HB.out⟩
  have L1 := Lib.hid (short_of q1)
  clear q1
  go_wp2_with fail
  refine (short_any A U cap cU rs pt 12 _ HR.out HU.out (by omega) (by omega)).mono ?_
  rintro e w3 ⟨rfl, rfl⟩
  cases q2 : shortB rs pt 12
  · go_wp2_with fail
    go_ret
    exact ⟨rfl, HB.out⟩
  have L2 := Lib.hid (short_of q2)
  clear q2
  by_cases h0 : ts.length = 0
  · go_wp2_with fail
    go_ret
    exact ⟨rfl, HB.out⟩
  have hkl : m % ts.length < ts.length := Nat.mod_lt _ (by omega)
  have hrem : (m : Int).tmod (ts.length : Int) = ((m % ts.length : Nat) : Int) := by
    rw [Int.tmod_eq_emod_of_nonneg (by omega)]; exact (Int.natCast_emod m ts.length).symm
  generalize m % ts.length = k at *
  have z0 : ((ts.length : Int) == 0) = false := by rw [beq_eq_false_iff_ne]; omega
  have z1 : ((m : Int)).toNat = m := by omega
  have L0 := Lib.hid (show 0 < ts.length by omega)
  have HKL := Lib.hid hkl
  have z2 : ¬ (ts.length : Int) = 0 := by omega
  clear hkl
  go_wp2_with fail
  refine (read_any A T cap cT rs ts _ HR.out HT.out hc hcap).mono ?_
  rintro e w3 ⟨RA, rca, rfl, hr1, hr2, hrd, hb⟩
  have HRD := Lib.hid hrd
  have HR := Lib.hid (HR.out.keep hb)
  have HT := Lib.hid (HT.out.keep hb)
  have HU := Lib.hid (HU.out.keep hb)
  have HB := Lib.hid (HB.out.trans (hb.mono HB.out.size))
  clear hb hrd z0 z1 z2 h0 hrem
  go_wp2_with fail
  refine (read_any A U cap cU rs pt _ HR.out HU.out hc hcap).mono ?_
  rintro e w4 ⟨MA, mca, rfl, hr3, hr4, hmd, hb⟩
  have HMD := Lib.hid hmd
  have HRD := Lib.hid (HRD.out.keep hb)
  have HR := Lib.hid (HR.out.keep hb)
  have HT := Lib.hid (HT.out.keep hb)
  have HU := Lib.hid (HU.out.keep hb)
  have HB := Lib.hid (HB.out.trans (hb.mono HB.out.size))
  clear hb hmd
  have hl1 := @read_len rs ts
  have hl2 := @read_len rs pt
  cases b1 : (validB rs && toksB ts)
  · have E1 := (read_bad b1).2
    rw [E1]
    clear E1 b1
    go_wp2_with fail
    go_ret
    exact ⟨rfl, HB.out⟩
  have E1 := read_ok b1
  rw [E1]
  clear E1
  cases b2 : (validB rs && toksB pt)
  · have E2 := (read_bad b2).2
    rw [E2]
    clear E2 b1 b2
    go_wp2_with fail
    go_ret
    exact ⟨rfl, HB.out⟩
  have E2 := read_ok b2
  rw [E2]
  clear E2
  have HV := Lib.hid (show validB rs = true by rw [Bool.and_eq_true] at b1; exact b1.1)
  clear b1 b2
  by_cases p1 : 0 < (readL rs ts).length
  case neg =>
    have z1 : (((readL rs ts).length : Int) == 0) = true := by rw [beq_iff_eq]; omega
    clear p1
    go_wp2_with fail
    go_ret
    exact ⟨rfl, HB.out⟩
  case pos =>
  have z1 : (((readL rs ts).length : Int) == 0) = false := by rw [beq_eq_false_iff_ne]; omega
  by_cases p2 : 0 < (readL rs pt).length
  case neg =>
    have z2 : (((readL rs pt).length : Int) == 0) = true := by rw [beq_iff_eq]; omega
    clear p1 p2
    go_wp2_with fail
    go_ret
    exact ⟨rfl, HB.out⟩
  case pos =>
  obtain ⟨x, hx⟩ : ∃ x, (readL rs ts)[0]? = some x := ⟨_, List.getElem?_eq_getElem p1⟩
  obtain ⟨m0, hm0⟩ : ∃ x, (readL rs pt)[0]? = some x := ⟨_, List.getElem?_eq_getElem p2⟩
  have HX := Lib.hid (List.mem_of_getElem? hx)
  have HM := Lib.hid (List.mem_of_getElem? hm0)
  have HM0 := Lib.hid hm0
  have P2 := Lib.hid p2
  have z2 : (((readL rs pt).length : Int) == 0) = false := by rw [beq_eq_false_iff_ne]; omega
  clear hx hm0 p1 p2
  obtain ⟨s, hs⟩ : ∃ s, ts[k]? = some s := ⟨_, List.getElem?_eq_getElem HKL.out⟩
  obtain ⟨hf, ad, rfl, hadl, c0⟩ := HT.out k s hs
  have i2 : (0 : Int) ≤ (k : Int) := by omega
  have i3 : (k : Int) < (ts.length : Int) := by have := HKL.out; omega
  by_cases hq : s.toList = opndL
  · have HK := Lib.hid (show tokB ts k opndL = true by unfold tokB; rw [hs]; exact beq_iff_eq.2 hq)
    have hq2 : (s.toList == opndL) = true := beq_iff_eq.2 hq
    unfold opndL at hq2 hq
    clear hs hf hadl
    go_wp2_with fail
    clear c0 hq hq2 i2 i3 z1 z2
    go_loopw [16, 17] (fun v i wr => ∃ j : Nat, j ≤ rs.length ∧ i = .int .i64 j ∧ v = .int .i64 (mostI (rs.take j)) ∧ Hid (Below w4.heap.size w4 wr)) (fun _ i _ => rs.length - (intOf i).toNat)
    case atStart => exact ⟨0, by omega, rfl, by rw [List.take_zero]; rfl, Below.refl _ _⟩
    case round =>
      obtain ⟨j, hj, rfl, rfl, HW⟩ := hrel
      by_cases hlt : j < rs.length
      · obtain ⟨u, hu⟩ : ∃ u, rs[j]? = some u := ⟨_, List.getElem?_eq_getElem hlt⟩
        obtain ⟨_, ad2, rfl, hadl2, d0, d1, d2, d3, d4, d5⟩ := (HR.out.keep HW.out).at_ hu
        have HMS := Lib.hid (most_snoc hu)
        have m1 : (0 : Int) ≤ (j : Int) := by omega
        have m2 : (j : Int) < (rs.length : Int) := by omega
        clear hadl2
        clear hu
        go_wp2_with fail
        go_quiet (fail)
        have HW := Lib.hid (below_drewN HW.out nq)
        clear d0 d1 d2 d3 d4 d5
        generalize wr.drewN nq = w5 at *
        go_wp2_with fail
        go_roundw
        case rel => exact ⟨j + 1, by omega, by go_num, by rw [HMS.out], HW⟩
        case measure => simp [intOf]; omega
      · obtain rfl : j = rs.length := by omega
        rw [List.take_of_length_le (Nat.le_refl _)]
        have HMD := Lib.hid (HMD.out.keep HW.out)
        have HRW := Lib.hid (HR.out.keep HW.out)
        have HTW := Lib.hid (HT.out.keep HW.out)
        have HUW := Lib.hid (HU.out.keep HW.out)
        have HBW := Lib.hid (HB.out.trans (HW.out.mono HB.out.size))
        clear HR HT HU HB HW HRD hlt hj
        obtain ⟨me, MA2, mc2, rfl, _, _, _, _, _, e0, e1, e2⟩ := HMD.out.at_ HM0.out
        have e0 : wr.cell? me = some (.int .i64 m0.rule) := by
          rw [show me.add (0 * 3) = me by unfold Addr.add; simp] at e0; exact e0
        have HRG := Lib.hid (all_rule (read_mem HM.out).2)
        have p2 : (0 : Int) < ((readL rs pt).length : Int) := by have := P2.out; omega
        have HFIT := Lib.hid (show ∀ s ∈ joinT ts pt k, s.size ≤ 9223372036854775807 from fun s hs => by
          unfold joinT at hs
          rcases List.mem_append.1 hs with hs | hs
          · rcases List.mem_append.1 hs with hs | hs
            · obtain ⟨i, hi⟩ := List.mem_iff_getElem?.1 (List.mem_of_mem_take hs)
              exact (HTW.out i s hi).1
            · obtain ⟨i, hi⟩ := List.mem_iff_getElem?.1 hs
              exact (HUW.out i s hi).1
          · obtain ⟨i, hi⟩ := List.mem_iff_getElem?.1 (List.mem_of_mem_drop hs)
            exact (HTW.out i s hi).1)
        by_cases r0 : 0 ≤ m0.rule
        · obtain ⟨n, hn⟩ : ∃ n : Nat, m0.rule = n := ⟨m0.rule.toNat, by omega⟩
          obtain ⟨u, hu⟩ : ∃ u, rs[n]? = some u := ⟨_, List.getElem?_eq_getElem (by have := HRG.out; omega)⟩
          have HPI := Lib.hid (show precI rs m0.rule = u.prec by rw [hn]; exact precI_nat hu)
          obtain ⟨_, ad2, rfl, hadl2, d0, d1, d2, d3, d4, d5⟩ := HRW.out.at_ hu
          have n1 : (n : Int) < (rs.length : Int) := by have := HRG.out; omega
          rw [hn] at e0
          clear hadl2
          clear hu hn r0
          by_cases hpm : u.prec < mostI rs
          · go_wp2_with fail
            go_ret
            exact ⟨rfl, HBW.out⟩
          · have HMOST := Lib.hid (most_le (rs := rs) (p := precI rs m0.rule) (by rw [HPI.out]; omega))
            go_upto_region 18 with (fail)
            clear d0 d1 d2 d3 d4 d5 e0 e1 e2 hpm n1
            refine region_ghost (X := Nat × Value × Value × Value) (by kernel_rfl) _ (fun gx => [.slice (some ⟨gx.1, 0, none⟩) 0 0, .slice (some ad) ts.length cT, .int .i64 (↑k), .slice (some ad) k cT, gx.2.1, .slice U pt.length cU, gx.2.2.1, .slice (some ad) ts.length cT, .int .i64 (↑k), .int .i64 ((k : Nat) + 1), .slice (if cT = k + 1 then some ad else (some ad).map (·.add (k + 1))) (ts.length - (k + 1)) (cT - (k + 1)), gx.2.2.2, gx.2.2.2]) [true, true, true, true, true, true, true, true, true, true, true, true, true] [0, 4, 6, 11] (InvJ wr ts pt k) (0, .nilFunc, .nilFunc, .nilFunc) (by kernel_rfl) (fun gx => by simp [fin, finOn, dstAt, List.range, List.range.loop, Act.put]; rfl) (fun _ => by kernel_rfl) (by kernel_rfl) ⟨below_drew (Below.refl _ _), (fun h => by cases h), (fun h => by cases h), (fun h => by cases h), fun h => by cases h⟩ ?_ ?_
            · refine ⟨fun L gx wq hL hb ha hI => ?_, fun L gx wq hL hb ha hI => ?_, fun L gx wq hL hb ha hI => ?_, fun L gx wq hL hb ha hI => ?_, fun L gx wq hL hb ha hI => ?_, fun L gx wq hL hb ha hI => ?_, fun L gx wq hL hb ha hI => ?_, fun L gx wq hL hb ha hI => ?_, fun L gx wq hL hb ha hI => ?_, fun L gx wq hL hb ha hI => ?_, fun L gx wq hL hb ha hI => ?_, fun L gx wq hL hb ha hI => ?_, fun L gx wq hL hb ha hI => ?_, trivial⟩
              · have e0 : L 0 = false := hL
                have e4 : L 4 = false := ha 4 (by kernel_rfl)
                have e6 : L 6 = false := ha 6 (by kernel_rfl)
                have e11 : L 11 = false := ha 11 (by kernel_rfl)
                simp only [List.map, e0, e4, e6, e11] at hI ⊢
                obtain ⟨h1, h2, h3, h4, h5⟩ := hI
                have hba := bel_alloc wq (.cells #[] 9)
                exact Gives.value (v := .slice (some ⟨wq.heap.size, 0, none⟩) 0 0) (w' := wq.alloc (.cells #[] 9)) (by simp [go_sem]) ⟨(wq.heap.size, gx.2), rfl, (KeepsV.of_same ⟨.inl rfl, .inr (.inr rfl), .inr (.inr rfl), .inr (.inr rfl), (by first | exact .inr (.inr rfl) | exact .inr (.inl (by kernel_rfl))), .inr (.inr rfl), (by first | exact .inr (.inr rfl) | exact .inr (.inl (by kernel_rfl))), .inr (.inr rfl), .inr (.inr rfl), .inr (.inr rfl), .inr (.inr rfl), (by first | exact .inr (.inr rfl) | exact .inr (.inl (by kernel_rfl))), (by first | exact .inr (.inr rfl) | exact .inr (.inl (by kernel_rfl))), trivial⟩), h1.trans (hba.mono h1.size), (fun _ _ => ⟨rfl, .inr ⟨wq.heap.size, 0, #[], rfl, h1.size, Blk.new wq _ _, Nat.le_refl _, by unfold maxLen; omega, rfl, rfl⟩⟩), (fun h => by cases h), (fun h => by cases h), fun h => by cases h⟩
              · exact Gives.plain (v := .slice (some ad) ts.length cT) (w' := wq) (by kernel_rfl) rfl hI
              · exact Gives.plain (v := .int .i64 (↑k)) (w' := wq) (by kernel_rfl) rfl hI
              · have hk9 := HKL.out
                have q1 : (0 : Int) ≤ (k : Int) := by omega
                have q2 : (k : Int) ≤ (cT : Int) := by omega
                exact Gives.plain (v := .slice (some ad) k cT) (w' := wq) (by simp [go_sem, q1, q2]; try omega) rfl hI
              · have e0 : L 0 = true := hb 0 (by kernel_rfl)
                have e4 : L 4 = false := hL
                have e6 : L 6 = false := ha 6 (by kernel_rfl)
                have e11 : L 11 = false := ha 11 (by kernel_rfl)
                simp only [List.map, e0, e4, e6, e11] at hI ⊢
                obtain ⟨h1, h2, h3, h4, h5⟩ := hI
                have ho := h2 rfl rfl
                have hk9 := HKL.out
                have hl9 := L1.out.2
                exact gives_append (.tmp 121) (.tmp 124) 23 rfl wr.heap.size 9 i0 (.string ⟨#[]⟩) 1 16 Try.underlying23 hi hz0 hz1 hz2 rfl (by decide) _ 0 [] rfl ho wq.heap.size (some ad) (k) (cT) ((ts.take k).map Value.string) rfl ((reads_toks HTW.out (by omega)).below h1 |>.more h1.size) strs_one (by unfold maxLen; omega) (by omega) h1.size (fun v' w' g2 g3 g4 => ⟨(gx.1, v', gx.2.2), rfl, (KeepsV.of_same ⟨(by first | exact .inr (.inr rfl) | exact .inr (.inl (by kernel_rfl))), .inr (.inr rfl), .inr (.inr rfl), .inr (.inr rfl), .inl rfl, .inr (.inr rfl), (by first | exact .inr (.inr rfl) | exact .inr (.inl (by kernel_rfl))), .inr (.inr rfl), .inr (.inr rfl), .inr (.inr rfl), .inr (.inr rfl), (by first | exact .inr (.inr rfl) | exact .inr (.inl (by kernel_rfl))), (by first | exact .inr (.inr rfl) | exact .inr (.inl (by kernel_rfl))), trivial⟩), h1.grown g3 h1.size (fun b hb => (World.ownsRow.lt ho b hb).1), (fun _ h => by cases h), (fun _ _ => by have h9 := OwnS.snoc (ts := []) (us := ts.take k) rfl (by rw [List.length_take, Nat.min_eq_left (by omega)]; exact g2); exact h9), (fun h => by cases h), fun h => by cases h⟩)
              · exact Gives.plain (v := .slice U pt.length cU) (w' := wq) (by kernel_rfl) rfl hI
              · have e0 : L 0 = true := hb 0 (by kernel_rfl)
                have e4 : L 4 = true := hb 4 (by kernel_rfl)
                have e6 : L 6 = false := hL
                have e11 : L 11 = false := ha 11 (by kernel_rfl)
                simp only [List.map, e0, e4, e6, e11] at hI ⊢
                obtain ⟨h1, h2, h3, h4, h5⟩ := hI
                have ho := h3 rfl rfl
                have hk9 := HKL.out
                have hl9 := L1.out.2
                have hm9 := L2.out.2
                have htk : (ts.take k).length = k := by rw [List.length_take]; omega
                exact gives_append (.tmp 125) (.tmp 126) 23 rfl wr.heap.size 9 i0 (.string ⟨#[]⟩) 1 16 Try.underlying23 hi hz0 hz1 hz2 rfl (by decide) _ _ _ rfl ho wq.heap.size (U) (pt.length) (cU) (pt.map Value.string) rfl (by have h9 := reads_toks HUW.out (Nat.le_refl _); rw [List.take_of_length_le (Nat.le_refl _)] at h9; exact (h9.below h1).more h1.size) strs_one (by unfold maxLen; omega) (by omega) h1.size (fun v' w' g2 g3 g4 => ⟨(gx.1, gx.2.1, v', gx.2.2.2), rfl, (KeepsV.of_same ⟨(by first | exact .inr (.inr rfl) | exact .inr (.inl (by kernel_rfl))), .inr (.inr rfl), .inr (.inr rfl), .inr (.inr rfl), (by first | exact .inr (.inr rfl) | exact .inr (.inl (by kernel_rfl))), .inr (.inr rfl), .inl rfl, .inr (.inr rfl), .inr (.inr rfl), .inr (.inr rfl), .inr (.inr rfl), (by first | exact .inr (.inr rfl) | exact .inr (.inl (by kernel_rfl))), (by first | exact .inr (.inr rfl) | exact .inr (.inl (by kernel_rfl))), trivial⟩), h1.grown g3 h1.size (fun b hb => (World.ownsRow.lt ho b hb).1), (fun _ h => by cases h), (fun _ h => by cases h), (fun _ _ => OwnS.snoc rfl g2), fun h => by cases h⟩)
              · exact Gives.plain (v := .slice (some ad) ts.length cT) (w' := wq) (by kernel_rfl) rfl hI
              · exact Gives.plain (v := .int .i64 (↑k)) (w' := wq) (by kernel_rfl) rfl hI
              · have hk9 := HKL.out
                have hl9 := L1.out.2
                have q3 : IntKind.i64.wrap ((k : Int) + 1) = (k : Int) + 1 := IntWalk.i64_in _ (by omega)
                exact Gives.plain (v := .int .i64 ((k : Nat) + 1)) (w' := wq) (by simp [go_sem, q3]) rfl hI
              · have hk9 := HKL.out
                have hl9 := L1.out.2
                exact Gives.plain (v := .slice (if cT = k + 1 then some ad else (some ad).map (·.add (k + 1))) (ts.length - (k + 1)) (cT - (k + 1))) (w' := wq) (by simp [go_sem]; try omega) rfl hI
              · have e0 : L 0 = true := hb 0 (by kernel_rfl)
                have e4 : L 4 = true := hb 4 (by kernel_rfl)
                have e6 : L 6 = true := hb 6 (by kernel_rfl)
                have e11 : L 11 = false := hL
                simp only [List.map, e0, e4, e6, e11] at hI ⊢
                obtain ⟨h1, h2, h3, h4, h5⟩ := hI
                have ho := h4 rfl rfl
                have hk9 := HKL.out
                have hl9 := L1.out.2
                have hm9 := L2.out.2
                have htk : (ts.take k).length = k := by rw [List.length_take]; omega
                have hlen : (ts.take k ++ pt).length = k + pt.length := by rw [List.length_append, htk]
                have hdl : (ts.drop (k + 1)).length = ts.length - (k + 1) := List.length_drop
                exact gives_append (.tmp 127) (.tmp 131) 23 rfl wr.heap.size 9 i0 (.string ⟨#[]⟩) 1 16 Try.underlying23 hi hz0 hz1 hz2 rfl (by decide) _ _ _ rfl ho wq.heap.size (if cT = k + 1 then some ad else (some ad).map (·.add (k + 1))) (ts.length - (k + 1)) (cT - (k + 1)) ((ts.drop (k + 1)).map Value.string) rfl (by have h9 := (reads_toks HTW.out (Nat.le_refl _)).cut (k := k + 1) (cap := cT) (by omega) hc1; rw [List.take_of_length_le (Nat.le_refl _), Nat.mul_one, ← List.map_drop] at h9; exact (h9.below h1).more h1.size) strs_one (by unfold maxLen; omega) (by omega) h1.size (fun v' w' g2 g3 g4 => ⟨(gx.1, gx.2.1, gx.2.2.1, v'), rfl, (KeepsV.of_same ⟨(by first | exact .inr (.inr rfl) | exact .inr (.inl (by kernel_rfl))), .inr (.inr rfl), .inr (.inr rfl), .inr (.inr rfl), (by first | exact .inr (.inr rfl) | exact .inr (.inl (by kernel_rfl))), .inr (.inr rfl), (by first | exact .inr (.inr rfl) | exact .inr (.inl (by kernel_rfl))), .inr (.inr rfl), .inr (.inr rfl), .inr (.inr rfl), .inr (.inr rfl), .inl rfl, (by first | exact .inr (.inr rfl) | exact .inr (.inl (by kernel_rfl))), trivial⟩), h1.grown g3 h1.size (fun b hb => (World.ownsRow.lt ho b hb).1), (fun _ h => by cases h), (fun _ h => by cases h), (fun _ h => by cases h), fun _ => by unfold joinT; exact OwnS.snoc rfl (by rw [hdl]; exact g2)⟩)
              · exact Gives.plain (v := gx.2.2.2) (w' := wq) (by kernel_rfl) rfl hI
            · intro gx wq hI
              have HO := Lib.hid (hI.2.2.2.2 rfl)
              have HRW := Lib.hid (HRW.out.keep hI.1)
              have HBW := Lib.hid (HBW.out.trans (hI.1.mono HBW.out.size))
              obtain ⟨AJ, capJ, ej, hj1, hj2, hjt⟩ := HO.out.form HFIT.out
              have EJ := Lib.hid ej
              have HJT := Lib.hid hjt
              clear hI hjt ej
              rw [EJ.out]
              go_wp2_with fail
              all_goals (
                refine (read_any _ AJ cap capJ rs (joinT ts pt k) _ HRW.out HJT.out hc hcap).mono ?_
                rintro e w9 ⟨NA, nca, rfl, _, _, _, hb⟩
                have HBW := Lib.hid (HBW.out.trans (hb.mono HBW.out.size))
                obtain ⟨f1, f2⟩ := parts_law (rs := rs) (ts := ts) (pt := pt) (k := k) (by have := L1.out.2; omega) (by have := L2.out.2; omega) HK.out HKL.out HX.out HM.out HMOST.out
                rw [f1]
                clear hb f1
                have F2 := Lib.hid f2
                clear f2
                go_wp2_with fail
                go_ret
                exact ⟨ret_bool (decide_eq_true F2.out), HBW.out⟩)
        · have HMOST := Lib.hid (leaf_most HV.out (r := m0.rule) (by omega))
          go_upto_region 18 with (fail)
          clear e0 e1 e2 r0
          refine region_ghost (X := Nat × Value × Value × Value) (by kernel_rfl) _ (fun gx => [.slice (some ⟨gx.1, 0, none⟩) 0 0, .slice (some ad) ts.length cT, .int .i64 (↑k), .slice (some ad) k cT, gx.2.1, .slice U pt.length cU, gx.2.2.1, .slice (some ad) ts.length cT, .int .i64 (↑k), .int .i64 ((k : Nat) + 1), .slice (if cT = k + 1 then some ad else (some ad).map (·.add (k + 1))) (ts.length - (k + 1)) (cT - (k + 1)), gx.2.2.2, gx.2.2.2]) [true, true, true, true, true, true, true, true, true, true, true, true, true] [0, 4, 6, 11] (InvJ wr ts pt k) (0, .nilFunc, .nilFunc, .nilFunc) (by kernel_rfl) (fun gx => by simp [fin, finOn, dstAt, List.range, List.range.loop, Act.put]; rfl) (fun _ => by kernel_rfl) (by kernel_rfl) ⟨below_drew (Below.refl _ _), (fun h => by cases h), (fun h => by cases h), (fun h => by cases h), fun h => by cases h⟩ ?_ ?_
          · refine ⟨fun L gx wq hL hb ha hI => ?_, fun L gx wq hL hb ha hI => ?_, fun L gx wq hL hb ha hI => ?_, fun L gx wq hL hb ha hI => ?_, fun L gx wq hL hb ha hI => ?_, fun L gx wq hL hb ha hI => ?_, fun L gx wq hL hb ha hI => ?_, fun L gx wq hL hb ha hI => ?_, fun L gx wq hL hb ha hI => ?_, fun L gx wq hL hb ha hI => ?_, fun L gx wq hL hb ha hI => ?_, fun L gx wq hL hb ha hI => ?_, fun L gx wq hL hb ha hI => ?_, trivial⟩
            · have e0 : L 0 = false := hL
              have e4 : L 4 = false := ha 4 (by kernel_rfl)
              have e6 : L 6 = false := ha 6 (by kernel_rfl)
              have e11 : L 11 = false := ha 11 (by kernel_rfl)
              simp only [List.map, e0, e4, e6, e11] at hI ⊢
              obtain ⟨h1, h2, h3, h4, h5⟩ := hI
              have hba := bel_alloc wq (.cells #[] 9)
              exact Gives.value (v := .slice (some ⟨wq.heap.size, 0, none⟩) 0 0) (w' := wq.alloc (.cells #[] 9)) (by simp [go_sem]) ⟨(wq.heap.size, gx.2), rfl, (KeepsV.of_same ⟨.inl rfl, .inr (.inr rfl), .inr (.inr rfl), .inr (.inr rfl), (by first | exact .inr (.inr rfl) | exact .inr (.inl (by kernel_rfl))), .inr (.inr rfl), (by first | exact .inr (.inr rfl) | exact .inr (.inl (by kernel_rfl))), .inr (.inr rfl), .inr (.inr rfl), .inr (.inr rfl), .inr (.inr rfl), (by first | exact .inr (.inr rfl) | exact .inr (.inl (by kernel_rfl))), (by first | exact .inr (.inr rfl) | exact .inr (.inl (by kernel_rfl))), trivial⟩), h1.trans (hba.mono h1.size), (fun _ _ => ⟨rfl, .inr ⟨wq.heap.size, 0, #[], rfl, h1.size, Blk.new wq _ _, Nat.le_refl _, by unfold maxLen; omega, rfl, rfl⟩⟩), (fun h => by cases h), (fun h => by cases h), fun h => by cases h⟩
            · exact Gives.plain (v := .slice (some ad) ts.length cT) (w' := wq) (by kernel_rfl) rfl hI
            · exact Gives.plain (v := .int .i64 (↑k)) (w' := wq) (by kernel_rfl) rfl hI
            · have hk9 := HKL.out
              have q1 : (0 : Int) ≤ (k : Int) := by omega
              have q2 : (k : Int) ≤ (cT : Int) := by omega
              exact Gives.plain (v := .slice (some ad) k cT) (w' := wq) (by simp [go_sem, q1, q2]; try omega) rfl hI
            · have e0 : L 0 = true := hb 0 (by kernel_rfl)
              have e4 : L 4 = false := hL
              have e6 : L 6 = false := ha 6 (by kernel_rfl)
              have e11 : L 11 = false := ha 11 (by kernel_rfl)
              simp only [List.map, e0, e4, e6, e11] at hI ⊢
              obtain ⟨h1, h2, h3, h4, h5⟩ := hI
              have ho := h2 rfl rfl
              have hk9 := HKL.out
              have hl9 := L1.out.2
              exact gives_append (.tmp 121) (.tmp 124) 23 rfl wr.heap.size 9 i0 (.string ⟨#[]⟩) 1 16 Try.underlying23 hi hz0 hz1 hz2 rfl (by decide) _ 0 [] rfl ho wq.heap.size (some ad) (k) (cT) ((ts.take k).map Value.string) rfl ((reads_toks HTW.out (by omega)).below h1 |>.more h1.size) strs_one (by unfold maxLen; omega) (by omega) h1.size (fun v' w' g2 g3 g4 => ⟨(gx.1, v', gx.2.2), rfl, (KeepsV.of_same ⟨(by first | exact .inr (.inr rfl) | exact .inr (.inl (by kernel_rfl))), .inr (.inr rfl), .inr (.inr rfl), .inr (.inr rfl), .inl rfl, .inr (.inr rfl), (by first | exact .inr (.inr rfl) | exact .inr (.inl (by kernel_rfl))), .inr (.inr rfl), .inr (.inr rfl), .inr (.inr rfl), .inr (.inr rfl), (by first | exact .inr (.inr rfl) | exact .inr (.inl (by kernel_rfl))), (by first | exact .inr (.inr rfl) | exact .inr (.inl (by kernel_rfl))), trivial⟩), h1.grown g3 h1.size (fun b hb => (World.ownsRow.lt ho b hb).1), (fun _ h => by cases h), (fun _ _ => by have h9 := OwnS.snoc (ts := []) (us := ts.take k) rfl (by rw [List.length_take, Nat.min_eq_left (by omega)]; exact g2); exact h9), (fun h => by cases h), fun h => by cases h⟩)
            · exact Gives.plain (v := .slice U pt.length cU) (w' := wq) (by kernel_rfl) rfl hI
            · have e0 : L 0 = true := hb 0 (by kernel_rfl)
              have e4 : L 4 = true := hb 4 (by kernel_rfl)
              have e6 : L 6 = false := hL
              have e11 : L 11 = false := ha 11 (by kernel_rfl)
              simp only [List.map, e0, e4, e6, e11] at hI ⊢
              obtain ⟨h1, h2, h3, h4, h5⟩ := hI
              have ho := h3 rfl rfl
              have hk9 := HKL.out
              have hl9 := L1.out.2
              have hm9 := L2.out.2
              have htk : (ts.take k).length = k := by rw [List.length_take]; omega
              exact gives_append (.tmp 125) (.tmp 126) 23 rfl wr.heap.size 9 i0 (.string ⟨#[]⟩) 1 16 Try.underlying23 hi hz0 hz1 hz2 rfl (by decide) _ _ _ rfl ho wq.heap.size (U) (pt.length) (cU) (pt.map Value.string) rfl (by have h9 := reads_toks HUW.out (Nat.le_refl _); rw [List.take_of_length_le (Nat.le_refl _)] at h9; exact (h9.below h1).more h1.size) strs_one (by unfold maxLen; omega) (by omega) h1.size (fun v' w' g2 g3 g4 => ⟨(gx.1, gx.2.1, v', gx.2.2.2), rfl, (KeepsV.of_same ⟨(by first | exact .inr (.inr rfl) | exact .inr (.inl (by kernel_rfl))), .inr (.inr rfl), .inr (.inr rfl), .inr (.inr rfl), (by first | exact .inr (.inr rfl) | exact .inr (.inl (by kernel_rfl))), .inr (.inr rfl), .inl rfl, .inr (.inr rfl), .inr (.inr rfl), .inr (.inr rfl), .inr (.inr rfl), (by first | exact .inr (.inr rfl) | exact .inr (.inl (by kernel_rfl))), (by first | exact .inr (.inr rfl) | exact .inr (.inl (by kernel_rfl))), trivial⟩), h1.grown g3 h1.size (fun b hb => (World.ownsRow.lt ho b hb).1), (fun _ h => by cases h), (fun _ h => by cases h), (fun _ _ => OwnS.snoc rfl g2), fun h => by cases h⟩)
            · exact Gives.plain (v := .slice (some ad) ts.length cT) (w' := wq) (by kernel_rfl) rfl hI
            · exact Gives.plain (v := .int .i64 (↑k)) (w' := wq) (by kernel_rfl) rfl hI
            · have hk9 := HKL.out
              have hl9 := L1.out.2
              have q3 : IntKind.i64.wrap ((k : Int) + 1) = (k : Int) + 1 := IntWalk.i64_in _ (by omega)
              exact Gives.plain (v := .int .i64 ((k : Nat) + 1)) (w' := wq) (by simp [go_sem, q3]) rfl hI
            · have hk9 := HKL.out
              have hl9 := L1.out.2
              exact Gives.plain (v := .slice (if cT = k + 1 then some ad else (some ad).map (·.add (k + 1))) (ts.length - (k + 1)) (cT - (k + 1))) (w' := wq) (by simp [go_sem]; try omega) rfl hI
            · have e0 : L 0 = true := hb 0 (by kernel_rfl)
              have e4 : L 4 = true := hb 4 (by kernel_rfl)
              have e6 : L 6 = true := hb 6 (by kernel_rfl)
              have e11 : L 11 = false := hL
              simp only [List.map, e0, e4, e6, e11] at hI ⊢
              obtain ⟨h1, h2, h3, h4, h5⟩ := hI
              have ho := h4 rfl rfl
              have hk9 := HKL.out
              have hl9 := L1.out.2
              have hm9 := L2.out.2
              have htk : (ts.take k).length = k := by rw [List.length_take]; omega
              have hlen : (ts.take k ++ pt).length = k + pt.length := by rw [List.length_append, htk]
              have hdl : (ts.drop (k + 1)).length = ts.length - (k + 1) := List.length_drop
              exact gives_append (.tmp 127) (.tmp 131) 23 rfl wr.heap.size 9 i0 (.string ⟨#[]⟩) 1 16 Try.underlying23 hi hz0 hz1 hz2 rfl (by decide) _ _ _ rfl ho wq.heap.size (if cT = k + 1 then some ad else (some ad).map (·.add (k + 1))) (ts.length - (k + 1)) (cT - (k + 1)) ((ts.drop (k + 1)).map Value.string) rfl (by have h9 := (reads_toks HTW.out (Nat.le_refl _)).cut (k := k + 1) (cap := cT) (by omega) hc1; rw [List.take_of_length_le (Nat.le_refl _), Nat.mul_one, ← List.map_drop] at h9; exact (h9.below h1).more h1.size) strs_one (by unfold maxLen; omega) (by omega) h1.size (fun v' w' g2 g3 g4 => ⟨(gx.1, gx.2.1, gx.2.2.1, v'), rfl, (KeepsV.of_same ⟨(by first | exact .inr (.inr rfl) | exact .inr (.inl (by kernel_rfl))), .inr (.inr rfl), .inr (.inr rfl), .inr (.inr rfl), (by first | exact .inr (.inr rfl) | exact .inr (.inl (by kernel_rfl))), .inr (.inr rfl), (by first | exact .inr (.inr rfl) | exact .inr (.inl (by kernel_rfl))), .inr (.inr rfl), .inr (.inr rfl), .inr (.inr rfl), .inr (.inr rfl), .inl rfl, (by first | exact .inr (.inr rfl) | exact .inr (.inl (by kernel_rfl))), trivial⟩), h1.grown g3 h1.size (fun b hb => (World.ownsRow.lt ho b hb).1), (fun _ h => by cases h), (fun _ h => by cases h), (fun _ h => by cases h), fun _ => by unfold joinT; exact OwnS.snoc rfl (by rw [hdl]; exact g2)⟩)
            · exact Gives.plain (v := gx.2.2.2) (w' := wq) (by kernel_rfl) rfl hI
          · intro gx wq hI
            have HO := Lib.hid (hI.2.2.2.2 rfl)
            have HRW := Lib.hid (HRW.out.keep hI.1)
            have HBW := Lib.hid (HBW.out.trans (hI.1.mono HBW.out.size))
            obtain ⟨AJ, capJ, ej, hj1, hj2, hjt⟩ := HO.out.form HFIT.out
            have EJ := Lib.hid ej
            have HJT := Lib.hid hjt
            clear hI hjt ej
            rw [EJ.out]
            go_wp2_with fail
            all_goals (
              refine (read_any _ AJ cap capJ rs (joinT ts pt k) _ HRW.out HJT.out hc hcap).mono ?_
              rintro e w9 ⟨NA, nca, rfl, _, _, _, hb⟩
              have HBW := Lib.hid (HBW.out.trans (hb.mono HBW.out.size))
              obtain ⟨f1, f2⟩ := parts_law (rs := rs) (ts := ts) (pt := pt) (k := k) (by have := L1.out.2; omega) (by have := L2.out.2; omega) HK.out HKL.out HX.out HM.out HMOST.out
              rw [f1]
              clear hb f1
              have F2 := Lib.hid f2
              clear f2
              go_wp2_with fail
              go_ret
              exact ⟨ret_bool (decide_eq_true F2.out), HBW.out⟩)
  · have hq2 : (s.toList == opndL) = false := beq_eq_false_iff_ne.2 hq
    unfold opndL at hq2
    clear hq hs hf hadl
    go_wp2_with fail
    go_ret
    exact ⟨rfl, HB.out⟩
end Go.Proofs.Ytmhddlhlniajpaa
