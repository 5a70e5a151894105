/- The reference's prec and least. -/
import Derived.Test.YtmhddlhlniajpaaSA
namespace Go.Proofs.Ytmhddlhlniajpaa
open Go.RowKit
set_option maxHeartbeats 800000 in
theorem rprec_any (ok : Nat → Prop) (A : Option Addr) (cap : Nat) (rs : List Rul) (x : Rd) (c : Array Value) (w : World) (hR : RulsAt w A rs) (hX : RdAt ok w x c) (hr : x.rule < (rs.length : Int)) : Calls Try.prog 52 #[.slice A rs.length cap, .agg c] w fun e w' => e = .returned (.int .i64 (precI rs x.rule)) ∧ Below w.heap.size w w' := by
  obtain ⟨A', cap', rfl, hl, hc, hk⟩ := hX.form
  have hba := bel_alloc w (.cells (rdC x.rule x.at_ A' x.kids.length cap') 34)
  have HB := Lib.hid hba
  have HR := Lib.hid (hR.keep hba)
  have K1 := Lib.hid (Blk.new w 34 (rdC x.rule x.at_ A' x.kids.length cap'))
  clear hR hX hk hba
  have c0 := K1.out.cell 0
  by_cases h0 : x.rule < 0
  · have HQ := Lib.hid (show precI rs x.rule = 101 by unfold precI; rw [if_pos h0])
    go_enter Try.func52, Try.ntmps52
    go_wp2_with fail
    go_ret
    exact ⟨ret_int HQ.out.symm, HB.out⟩
  · obtain ⟨n, hn⟩ : ∃ n : Nat, x.rule = n := ⟨x.rule.toNat, by omega⟩
    obtain ⟨u, hu⟩ : ∃ u, rs[n]? = some u := ⟨_, List.getElem?_eq_getElem (by omega)⟩
    have HQ := Lib.hid (show precI rs x.rule = u.prec by rw [hn]; exact precI_nat hu)
    obtain ⟨_, ad, rfl, _, d0, d1, d2, d3, d4, d5⟩ := HR.out.at_ hu
    have i1 : (n : Int) < (rs.length : Int) := by omega
    clear c0
    have c0 : (w.alloc (.cells (rdC x.rule x.at_ A' x.kids.length cap') 34)).cell? ⟨w.heap.size, 0, none⟩ = some (.int .i64 (n : Int)) := by rw [← hn]; exact K1.out.cell 0
    clear hu hn h0
    go_enter Try.func52, Try.ntmps52
    go_upto_region 1 with (fail)
    generalize w.alloc (.cells (rdC x.rule x.at_ A' x.kids.length cap') 34) = w1 at *
    go_wp2_with fail
    go_ret
    exact ⟨ret_int HQ.out.symm, HB.out⟩
theorem rleast_snoc {rs : List Rul} {l : List Rd} {p : Int} {k : Nat} {x : Rd} (hx : l[k]? = some x) : leastR rs (l.take (k + 1)) p = leastR rs (l.take k) p ++ (if p ≤ precI rs x.rule then [x] else []) := by
  rw [List.take_add_one, hx, least_append]
  congr 1
  unfold leastR
  by_cases h : p ≤ precI rs x.rule
  · rw [if_pos h]; simp [h]
  · rw [if_neg h]; simp [h]
theorem least_len {rs : List Rul} {l : List Rd} {p : Int} : (leastR rs l p).length ≤ l.length := List.length_filter_le ..
set_option maxRecDepth 100000 in
set_option maxHeartbeats 2000000 in
theorem rleast_any (ok : Nat → Prop) (A L : Option Addr) (cap cl : Nat) (rs : List Rul) (l : List Rd) (p : Int) (w : World) (hR : RulsAt w A rs) (hL : RdsAt ok w L l) (hr : ∀ x ∈ l, x.rule < (rs.length : Int)) (hn : l.length ≤ 100000000) : Calls Try.prog 51 #[.slice A rs.length cap, .slice L l.length cl, .int .i64 p] w fun e w' => ∃ v, e = .returned v ∧ AppR (fun b => ok b ∧ b < w.heap.size) w' w.heap.size v (leastR rs l p) ∧ Below w.heap.size w w' := by
  obtain ⟨i0, hi, hz0, hz1, hz2⟩ := info_parts info_rd
  have HR0 := Lib.hid hR
  have HL0 := Lib.hid (hL.any (ok' := fun b => ok b ∧ b < w.heap.size) fun b h1 h2 => ⟨h2, h1⟩)
  have HX := Lib.hid hr
  clear hR hL hr
  go_enter Try.func51, Try.ntmps51
  go_wp2_with fail
  go_loopw [7, 8] (fun v i wr => ∃ k : Nat, k ≤ l.length ∧ i = .int .i64 k ∧ Hid (AppR (fun b => ok b ∧ b < w.heap.size) wr w.heap.size v (leastR rs (l.take k) p)) ∧ Hid (Below w.heap.size w wr)) (fun _ i _ => l.length - (intOf i).toNat)
  case atStart => exact ⟨0, by omega, rfl, AppR.nil (fun b => ok b ∧ b < w.heap.size) _ _, Below.refl _ _⟩
  case round =>
    obtain ⟨k, hk, rfl, HO, HB⟩ := hrel
    have HR := Lib.hid (HR0.out.keep HB.out)
    have HL := Lib.hid (HL0.out.keep HB.out)
    by_cases hlt : k < l.length
    · obtain ⟨x, hx⟩ : ∃ x, l[k]? = some x := ⟨_, List.getElem?_eq_getElem hlt⟩
      obtain ⟨ad, A1, k1, rfl, _, hxc, _, _, _, d0, d1, d2⟩ := HL.out.at_ hx
      have HS := Lib.hid (rleast_snoc (rs := rs) (p := p) hx)
      have HXC := Lib.hid hxc
      have HXR := Lib.hid (HX.out x (List.mem_of_getElem? hx))
      have HXK := Lib.hid hx
      clear hx hxc
      go_wp2_with fail
      clear d0 d1 d2
      refine (rprec_any _ A cap rs x _ _ HR.out HXC.out HXR.out).mono ?_
      rintro e w1 ⟨rfl, hb⟩
      have HO := Lib.hid (HO.out.keep hb)
      have HR := Lib.hid (HR.out.keep hb)
      have HL := Lib.hid (HL.out.keep hb)
      have HXC := Lib.hid (HXC.out.keep hb)
      have HB := Lib.hid (HB.out.trans (hb.mono HB.out.size))
      clear hb
      by_cases hp : p ≤ precI rs x.rule
      · rw [if_pos hp] at HS
        obtain ⟨ad', A2, k2, e1, _, hxc, _, _, _, d0, d1, d2⟩ := HL.out.at_ HXK.out
        obtain rfl := Option.some.inj e1
        have HXC := Lib.hid hxc
        clear hxc e1
        have hba := bel_alloc w1 (.cells (rdC x.rule x.at_ A2 x.kids.length k2) 34)
        have K6 := Lib.hid (Blk.new w1 34 (rdC x.rule x.at_ A2 x.kids.length k2))
        have HC := Lib.hid ((HXC.out.keep hba).any (ok' := fun b => u7.ownBlock ≠ some b ∧ (ok b ∧ b < w.heap.size)) fun b _ h => ⟨fun h' => by
          have := (HO.out.lt b h').1
          omega, h⟩)
        obtain ⟨css, ho, hl, hrr⟩ := HO.out.keep hba
        have HB := Lib.hid (HB.out.trans (hba.mono HB.out.size))
        have hxl : (leastR rs (List.take k l) p).length ≤ 100000000 := by
          have := least_len (rs := rs) (l := List.take k l) (p := p)
          rw [List.length_take] at this
          omega
        clear hba
        go_wp2_with (at_builtin; refine wpList_append_any _ rfl (.tmp 23) (.tmp 28) 26 rfl w.heap.size 34 i0 (.agg #[.int .i64 0, .int .i64 0, .slice none 0 0]) 3 40 Try.underlying26 hi hz0 hz1 hz2 rfl (by decide) _ _ _ rfl ho (w1.heap.size + 1) (some ⟨w1.heap.size, 0, none⟩) 1 1 (rdC x.rule x.at_ A2 x.kids.length k2).toList rfl (by have := reads_agg K6.out rfl; rw [World.size_alloc] at this; exact this) (rd_one HC.out) (by unfold maxLen; omega) (by omega) HB.out.size ?_; intro v' w' g2 g3 g4)
        have HO := Lib.hid (AppR.push hl hrr HC.out g2 g3 g4)
        rw [← HS.out] at HO
        have hfar : ∀ b, u7.ownBlock = some b → w.heap.size ≤ b := fun b hb => (World.ownsRow.lt ho b hb).1
        have HB := Lib.hid (HB.out.grown g3 HB.out.size hfar)
        clear ho hl hrr g2 g3 g4 hfar d0 d1 d2
        go_wp2_with fail
        go_roundw
        case rel => exact ⟨k + 1, by omega, by go_num, HO, HB⟩
        case measure => simp [intOf]; omega
      · rw [if_neg hp, List.append_nil] at HS
        rw [← HS.out] at HO
        go_wp2_with fail
        go_roundw
        case rel => exact ⟨k + 1, by omega, by go_num, HO, HB⟩
        case measure => simp [intOf]; omega
    · obtain rfl : k = l.length := by omega
      rw [List.take_of_length_le (Nat.le_refl _)] at HO
      go_wp2_with fail
      go_ret
      exact ⟨_, rfl, HO.out, HB.out⟩
end Go.Proofs.Ytmhddlhlniajpaa
