/- The program's Check. -/
import Derived.Test.YtmhddlhlniajpaaC5
import Derived.Test.YtmhddlhlniajpaaCM
import Derived.Test.YtmhddlhlniajpaaRP3
import Derived.Test.YtmhddlhlniajpaaVT
namespace Go.Proofs.Ytmhddlhlniajpaa
open Go.RowKit
section
variable {rs : List Rul} {ts : List ByteArray} {r a : Int} {ks : List Rd} {n i j : Nat} {u : Rul} {y z : Rd} {p : Int}
theorem chk_bad (h : j ≤ i ∨ a ≠ (i : Int)) : chkR rs ts (.mk r a ks) i j p = false := by rw [chkR, if_pos h]
theorem chk_leaf (h : ¬ j ≤ i) : chkR rs ts (.mk (-1) i ks) i j p = (decide (j = i + 1) && (tokB ts i opndL && (ks.isEmpty && decide (p ≤ 101)))) := by rw [chkR, if_neg (by omega), if_pos rfl]
theorem chk_out (h : ¬ j ≤ i) (h1 : r ≠ -1) (h2 : r < 0 ∨ (rs.length : Int) ≤ r) : chkR rs ts (.mk r i ks) i j p = false := by rw [chkR, if_neg (by omega), if_neg h1, if_pos h2]
theorem chk_rule (h : ¬ j ≤ i) (hu : rs[n]? = some u) : chkR rs ts (.mk n i ks) i j p = if u.prec < p then false
        else if u.kind = 2 ∨ u.kind = 3 then (match ks with
          | [y] => if u.kind = 2 then tokB ts i u.sym.toList && chkR rs ts y (i + 1) j u.right else tokB ts (j - 1) u.sym.toList && chkR rs ts y i (j - 1) u.left
          | _ => false)
        else (match ks with
          | [y, z] => if z.at_ ≤ (i : Int) ∨ (j : Int) ≤ z.at_ then false
            else if u.kind = 1 then tokB ts (z.at_.toNat - 1) u.sym.toList && (chkR rs ts y i (z.at_.toNat - 1) u.left && chkR rs ts z z.at_.toNat j u.right)
            else chkR rs ts y i z.at_.toNat u.left && chkR rs ts z z.at_.toNat j u.right
          | _ => false) := by
  have := (List.getElem?_eq_some_iff.1 hu).1
  rw [chkR, if_neg (by omega), if_neg (by omega), if_neg (by omega), Int.toNat_natCast, hu]
  rfl
theorem chk_low (h : ¬ j ≤ i) (hu : rs[n]? = some u) (hp : u.prec < p) : chkR rs ts (.mk n i ks) i j p = false := by rw [chk_rule h hu, if_pos hp]
theorem chk_one_bad (h : ¬ j ≤ i) (hu : rs[n]? = some u) (hk : u.kind = 2 ∨ u.kind = 3) (hl : ks.length ≠ 1) : chkR rs ts (.mk n i ks) i j p = false := by
  rw [chk_rule h hu, if_pos hk]
  split
  · rfl
  · match ks, hl with
    | [], _ => rfl
    | [y], hl => exact absurd rfl hl
    | _ :: _ :: _, _ => rfl
theorem chk_pre (h : ¬ j ≤ i) (hu : rs[n]? = some u) (hp : ¬ u.prec < p) (hk : u.kind = 2) : chkR rs ts (.mk n i [y]) i j p = (tokB ts i u.sym.toList && chkR rs ts y (i + 1) j u.right) := by
  rw [chk_rule h hu, if_neg hp, if_pos (.inl hk)]
  dsimp only
  rw [if_pos hk]
theorem chk_post (h : ¬ j ≤ i) (hu : rs[n]? = some u) (hp : ¬ u.prec < p) (hk : u.kind = 3) : chkR rs ts (.mk n i [y]) i j p = (tokB ts (j - 1) u.sym.toList && chkR rs ts y i (j - 1) u.left) := by
  rw [chk_rule h hu, if_neg hp, if_pos (.inr hk)]
  dsimp only
  rw [if_neg (by omega)]
theorem chk_two_bad (h : ¬ j ≤ i) (hu : rs[n]? = some u) (hk : ¬ (u.kind = 2 ∨ u.kind = 3)) (hl : ks.length ≠ 2) : chkR rs ts (.mk n i ks) i j p = false := by
  rw [chk_rule h hu, if_neg hk]
  split
  · rfl
  · match ks, hl with
    | [], _ => rfl
    | [y], _ => rfl
    | [y, z], hl => exact absurd rfl hl
    | _ :: _ :: _ :: _, _ => rfl
theorem chk_two_out (h : ¬ j ≤ i) (hu : rs[n]? = some u) (hk : ¬ (u.kind = 2 ∨ u.kind = 3)) (ho : z.at_ ≤ (i : Int) ∨ (j : Int) ≤ z.at_) : chkR rs ts (.mk n i [y, z]) i j p = false := by
  rw [chk_rule h hu, if_neg hk]
  split
  · rfl
  · dsimp only
    rw [if_pos ho]
theorem chk_in (h : ¬ j ≤ i) (hu : rs[n]? = some u) (hp : ¬ u.prec < p) (hk : u.kind = 1) {m : Nat} (hm : z.at_ = (m : Int)) (h1 : i < m) (h2 : m < j) : chkR rs ts (.mk n i [y, z]) i j p = (tokB ts (m - 1) u.sym.toList && (chkR rs ts y i (m - 1) u.left && chkR rs ts z m j u.right)) := by
  rw [chk_rule h hu, if_neg hp, if_neg (by omega)]
  dsimp only
  rw [hm, if_neg (by omega), if_pos hk, Int.toNat_natCast]
theorem chk_jux (h : ¬ j ≤ i) (hu : rs[n]? = some u) (hp : ¬ u.prec < p) (hk : ¬ (u.kind = 2 ∨ u.kind = 3)) (hk1 : ¬ u.kind = 1) {m : Nat} (hm : z.at_ = (m : Int)) (h1 : i < m) (h2 : m < j) : chkR rs ts (.mk n i [y, z]) i j p = (chkR rs ts y i m u.left && chkR rs ts z m j u.right) := by
  rw [chk_rule h hu, if_neg hp, if_neg hk]
  dsimp only
  rw [hm, if_neg (by omega), if_neg hk1, Int.toNat_natCast]
end
theorem Addr.add_zero'' (p : Addr) : p.add 0 = p := by unfold Addr.add; simp
abbrev chkC (A : Option Addr) (n cap : Nat) (T : Option Addr) (m cT : Nat) : Array Value := #[.slice A n cap, .slice T m cT]
set_option maxRecDepth 100000 in
set_option maxHeartbeats 1600000 in
theorem is_any (A T : Option Addr) (n cap cT : Nat) (ts : List ByteArray) (k : Nat) (s : ByteArray) (w : World) (hT : ToksAt w T ts) (hk : k < ts.length) : Calls Try.prog 53 #[.agg (chkC A n cap T ts.length cT), .int .i64 k, .string s] w fun e w' => e = .returned (.bool (tokB ts k s.toList)) ∧ Below w.heap.size w w' := by
  obtain ⟨t, ht⟩ : ∃ t, ts[k]? = some t := ⟨_, List.getElem?_eq_getElem hk⟩
  have hba := bel_alloc w (.cells (chkC A n cap T ts.length cT) 64)
  obtain ⟨_, ad, rfl, _, d0⟩ := (hT.keep hba) k t ht
  have HE := Lib.hid (show tokB ts k s.toList = (t.toList == s.toList) by unfold tokB; rw [ht])
  have HB := Lib.hid hba
  have j1 : (k : Int) < (ts.length : Int) := by omega
  clear hba hT ht
  go_enter Try.func53, Try.ntmps53
  go_wp2_with fail
  go_ret
  exact ⟨ret_bool HE.out.symm, HB.out⟩
set_option maxRecDepth 100000 in
set_option maxHeartbeats 8000000 in
theorem chk_any (A T : Option Addr) (cap cT : Nat) (rs : List Rul) (ts : List ByteArray) (ht : ts.length ≤ 1000000) : ∀ (z : Nat) (ok : Nat → Prop) (x : Rd) (p : Addr) (i j : Nat) (least : Int) (w : World), sizeR x ≤ z → RulsAt w A rs → ToksAt w T ts → PtAt ok w p x → j ≤ ts.length → Calls Try.prog 37 #[.agg (chkC A rs.length cap T ts.length cT), .pointer (some p), .int .i64 i, .int .i64 j, .int .i64 least] w fun e w' => e = .returned (.bool (chkR rs ts x i j least)) ∧ Below w.heap.size w w' := by
  have hOP : (⟨#[35]⟩ : ByteArray).toList = opndL := by rw [ByteArray.toList_eq]; rfl
  intro z
  induction z with
  | zero => intro ok x p i j least w h; have := size_pos x; omega
  | succ z ih =>
    intro ok x p i j least w hz hR hT hX hj
    have IH := Lib.hid ih
    clear ih
    obtain ⟨hpl, A', cap', q0, q1, q2, hl, hc, hk⟩ := hX
    obtain ⟨r, a, ks⟩ := x
    dsimp only [Rd.rule, Rd.at_, Rd.kids] at q0 q1 q2 hl hk
    have HZ := Lib.hid (show sizeL ks ≤ z by rw [size_kids] at hz; exact Nat.le_of_succ_le_succ hz)
    have hb := bel_alloc w (.cells (chkC A rs.length cap T ts.length cT) 64)
    have HK := Lib.hid (hk.keep hb)
    have HR := Lib.hid (hR.keep hb)
    have HT := Lib.hid (hT.keep hb)
    have K1 := Lib.hid (Blk.new w 64 (chkC A rs.length cap T ts.length cT))
    have HQ0 := Lib.hid ((hb.cell (show p.block < _ from hpl)).trans q0)
    have HQ1 := Lib.hid ((hb.cell (p := ⟨p.block, p.off + 1, none⟩) (show p.block < _ from hpl)).trans q1)
    have HQ2 := Lib.hid ((hb.cell (p := ⟨p.block, p.off + 2, none⟩) (show p.block < _ from hpl)).trans q2)
    have HPL := Lib.hid (show p.block < (w.alloc (.cells (chkC A rs.length cap T ts.length cT) 64)).heap.size from Nat.lt_of_lt_of_le hpl hb.size)
    have HB := Lib.hid hb
    have hkl : ks.length ≤ 9223372036854775807 := by omega
    clear hk hR hT q0 q1 q2 hb hz hpl hl hc
    by_cases g1 : j ≤ i
    · have HE := Lib.hid (chk_bad (rs := rs) (ts := ts) (r := r) (a := a) (ks := ks) (p := least) (.inl g1))
      go_enter Try.func37, Try.ntmps37
      go_wp2_with fail
      go_ret
      exact ⟨ret_bool HE.out.symm, HB.out⟩
    by_cases g2 : a = (i : Int)
    case neg =>
      have HE := Lib.hid (chk_bad (rs := rs) (ts := ts) (r := r) (ks := ks) (p := least) (j := j) (.inr g2))
      have t2 : (a == (i : Int)) = false := beq_eq_false_iff_ne.2 g2
      have c1 := HQ1.out
      go_enter Try.func37, Try.ntmps37
      go_wp2_with fail
      go_ret
      exact ⟨ret_bool HE.out.symm, HB.out⟩
    subst g2
    have t2 : ((i : Int) == (i : Int)) = true := beq_self_eq_true _
    have hi : i < ts.length := by omega
    by_cases g3 : r = -1
    · subst g3
      have HE0 := Lib.hid (chk_leaf (rs := rs) (ts := ts) (ks := ks) (p := least) g1)
      have c0 := HQ0.out
      have c1 := HQ1.out
      have k0 := K1.out.cell 0
      have k1 := K1.out.cell 1
      by_cases h1 : j = i + 1
      case neg =>
        have HE := Lib.hid (HE0.out.trans (by rw [decide_eq_false h1, Bool.false_and]))
        have h1' : ((j : Int) == (i : Int) + 1) = false := by rw [beq_eq_false_iff_ne]; omega
        clear h1
        go_enter Try.func37, Try.ntmps37
        go_wp2_with fail
        go_ret
        exact ⟨ret_bool HE.out.symm, HB.out⟩
      rw [decide_eq_true h1, Bool.true_and] at HE0
      have h1' : ((j : Int) == (i : Int) + 1) = true := by rw [beq_iff_eq]; omega
      clear h1
      go_enter Try.func37, Try.ntmps37
      go_wp2_with fail
      refine (is_any A T rs.length cap cT ts i ⟨#[35]⟩ _ HT.out hi).mono ?_
      rintro e w2 ⟨rfl, hb⟩
      rw [hOP]
      replace HR := Lib.hid (HR.out.keep hb)
      replace HT := Lib.hid (HT.out.keep hb)
      replace HK := Lib.hid (HK.out.keep hb)
      replace K1 := Lib.hid (keep hb K1.out)
      replace HQ0 := Lib.hid ((hb.cell (show p.block < _ from HPL.out)).trans HQ0.out)
      replace HQ1 := Lib.hid ((hb.cell (p := ⟨p.block, p.off + 1, none⟩) (show p.block < _ from HPL.out)).trans HQ1.out)
      replace HQ2 := Lib.hid ((hb.cell (p := ⟨p.block, p.off + 2, none⟩) (show p.block < _ from HPL.out)).trans HQ2.out)
      replace HPL := Lib.hid (show p.block < _ from Nat.lt_of_lt_of_le HPL.out hb.size)
      replace HB := Lib.hid (HB.out.trans (hb.mono HB.out.size))
      clear hb c0 c1 k0 k1
      cases q : tokB ts i opndL
      · have HE := Lib.hid (HE0.out.trans (by rw [q, Bool.false_and]))
        go_wp2_with fail
        go_ret
        exact ⟨ret_bool HE.out.symm, HB.out⟩
      rw [q, Bool.true_and] at HE0
      have c2 := HQ2.out
      by_cases h0 : ks = []
      · have HE := Lib.hid (HE0.out.trans (by rw [h0]; rfl) : chkR rs ts (.mk (-1) i ks) i j least = decide (least ≤ 101))
        have h0' : ((ks.length : Int) == 0) = true := by rw [h0]; rfl
        clear h0 HE0
        go_wp2_with fail
        go_ret
        exact ⟨ret_bool HE.out.symm, HB.out⟩
      · have HE := Lib.hid (HE0.out.trans (by cases ks with | nil => exact absurd rfl h0 | cons => rfl) : chkR rs ts (.mk (-1) i ks) i j least = false)
        have h0' : ((ks.length : Int) == 0) = false := by rw [beq_eq_false_iff_ne]; have := List.length_pos_iff.2 h0; omega
        clear h0 HE0
        go_wp2_with fail
        go_ret
        exact ⟨ret_bool HE.out.symm, HB.out⟩
    have g3' : (r == -1) = false := beq_eq_false_iff_ne.2 g3
    by_cases g4 : r < 0
    · have HE := Lib.hid (chk_out (rs := rs) (ts := ts) (ks := ks) (p := least) g1 g3 (.inl g4))
      have c0 := HQ0.out
      have c1 := HQ1.out
      go_enter Try.func37, Try.ntmps37
      go_upto_region 5 with (fail)
      go_quiet (fail)
      have HB := Lib.hid (below_drewN HB.out nq)
      go_wp2_with fail
      go_ret
      exact ⟨ret_bool HE.out.symm, HB.out⟩
    by_cases g5 : (rs.length : Int) ≤ r
    · have HE := Lib.hid (chk_out (rs := rs) (ts := ts) (ks := ks) (p := least) g1 g3 (.inr g5))
      have c0 := HQ0.out
      have c1 := HQ1.out
      have k0 := K1.out.cell 0
      go_enter Try.func37, Try.ntmps37
      go_upto_region 5 with (fail)
      go_quiet (fail)
      have HB := Lib.hid (below_drewN HB.out nq)
      go_wp2_with fail
      go_ret
      exact ⟨ret_bool HE.out.symm, HB.out⟩
    obtain ⟨n, rfl⟩ : ∃ n : Nat, r = n := ⟨r.toNat, by omega⟩
    obtain ⟨u, hu⟩ : ∃ u, rs[n]? = some u := ⟨_, List.getElem?_eq_getElem (by omega)⟩
    have HU := Lib.hid hu
    have HG1 := Lib.hid g1
    obtain ⟨_, ad2, rfl, hadl9, _, _, _, d3, _, _⟩ := HR.out.at_ hu
    have c0 := HQ0.out
    have c1 := HQ1.out
    have k0 := K1.out.cell 0
    have j3 : (n : Int) < (rs.length : Int) := by omega
    have j4 : ¬ rs.length ≤ n := by omega
    have j5 : ¬ (n : Int) < 0 := by omega
    clear hadl9 hu g3 g5
    by_cases g6 : u.prec < least
    · have HE := Lib.hid (chk_low (ts := ts) (ks := ks) HG1.out HU.out g6)
      go_enter Try.func37, Try.ntmps37
      go_upto_region 5 with (fail)
      go_quiet (fail)
      have HB := Lib.hid (below_drewN HB.out nq)
      go_wp2_with fail
      go_ret
      exact ⟨ret_bool HE.out.symm, HB.out⟩
    go_enter Try.func37, Try.ntmps37
    go_upto_region 5 with (fail)
    go_quiet (fail)
    have hb := below_drewN (Below.refl (w.alloc (.cells (chkC (some ad2) rs.length cap T ts.length cT) 64)).heap.size (w.alloc (.cells (chkC (some ad2) rs.length cap T ts.length cT) 64))) nq
    have HSZ := Lib.hid (show ((w.alloc (.cells (chkC (some ad2) rs.length cap T ts.length cT) 64)).drewN nq).heap.size = w.heap.size + 1 by simp)
    replace HR := Lib.hid (HR.out.keep hb)
    replace HT := Lib.hid (HT.out.keep hb)
    replace HK := Lib.hid (HK.out.keep hb)
    replace K1 := Lib.hid (keep hb K1.out)
    replace HQ0 := Lib.hid ((hb.cell (show p.block < _ from HPL.out)).trans HQ0.out)
    replace HQ1 := Lib.hid ((hb.cell (p := ⟨p.block, p.off + 1, none⟩) (show p.block < _ from HPL.out)).trans HQ1.out)
    replace HQ2 := Lib.hid ((hb.cell (p := ⟨p.block, p.off + 2, none⟩) (show p.block < _ from HPL.out)).trans HQ2.out)
    replace HPL := Lib.hid (show p.block < _ from Nat.lt_of_lt_of_le HPL.out hb.size)
    replace HB := Lib.hid (HB.out.trans (hb.mono HB.out.size))
    clear hb c0 c1 k0 d3
    generalize (w.alloc (.cells (chkC (some ad2) rs.length cap T ts.length cT) 64)).drewN nq = w1 at *
    obtain ⟨_, ad3, e9, _, d0, d1, d2, d3, d4, d5⟩ := HR.out.at_ HU.out
    obtain rfl := Option.some.inj e9
    have c0 := HQ0.out
    have k0 := K1.out.cell 0
    clear e9
    have hbz : Below w1.heap.size w1 (w1.alloc (.cells #[.int .i64 0, .string ⟨#[]⟩, .string ⟨#[]⟩, .int .i64 0, .int .i64 0, .int .i64 0] 41)).drew := below_drew (bel_alloc w1 _)
    have c0z := (hbz.cell (show p.block < _ from HPL.out)).trans c0
    have k0z := (keep hbz K1.out).cell 0
    obtain ⟨_, ad4, e9, _, z0, z1, z2, z3, z4, z5⟩ := (HR.out.keep hbz).at_ HU.out
    obtain rfl := Option.some.inj e9
    clear e9 hbz
    go_upto_region 7 with (fail)
    go_region
    have hb : Below w1.heap.size w1 (w1.alloc (.cells u.c 41)).drew := below_drew (bel_alloc w1 _)
    have KU := Lib.hid (show Blk (w1.alloc (.cells u.c 41)).drew w1.heap.size 41 u.c from Blk.new w1 _ _)
    replace HR := Lib.hid (HR.out.keep hb)
    replace HT := Lib.hid (HT.out.keep hb)
    replace HK := Lib.hid (HK.out.keep hb)
    replace K1 := Lib.hid (keep hb K1.out)
    replace HQ0 := Lib.hid ((hb.cell (show p.block < _ from HPL.out)).trans HQ0.out)
    replace HQ1 := Lib.hid ((hb.cell (p := ⟨p.block, p.off + 1, none⟩) (show p.block < _ from HPL.out)).trans HQ1.out)
    replace HQ2 := Lib.hid ((hb.cell (p := ⟨p.block, p.off + 2, none⟩) (show p.block < _ from HPL.out)).trans HQ2.out)
    replace HPL := Lib.hid (show p.block < _ from Nat.lt_of_lt_of_le HPL.out hb.size)
    replace HB := Lib.hid (HB.out.trans (hb.mono HB.out.size))
    clear hb c0 k0 c0z k0z z0 z1 z2 z3 z4 z5 d0 d1 d2 d3 d4 d5
    generalize (w1.alloc (.cells #[.int .i64 u.kind, .string u.sym, .string u.nam, .int .i64 u.prec, .int .i64 u.left, .int .i64 u.right] 41)).drew = w2 at *
    generalize w1.heap.size = gu at *
    have u0 := KU.out.cell 0
    have HQ2x := HQ2.out
    by_cases hk23 : u.kind = 2 ∨ u.kind = 3
    · by_cases hl1 : ks.length = 1
      case neg =>
        have HE := Lib.hid (chk_one_bad (ts := ts) (p := least) HG1.out HU.out hk23 hl1)
        have l1 : ((ks.length : Int) == 1) = false := by rw [beq_eq_false_iff_ne]; omega
        rcases hk23 with hk | hk
        · have b2 : (u.kind == 2) = true := beq_iff_eq.2 hk
          go_wp2_with fail
          go_ret
          exact ⟨ret_bool HE.out.symm, HB.out⟩
        · have b2 : (u.kind == 2) = false := by rw [beq_eq_false_iff_ne]; omega
          have b3 : (u.kind == 3) = true := beq_iff_eq.2 hk
          go_wp2_with fail
          go_ret
          exact ⟨ret_bool HE.out.symm, HB.out⟩
      obtain ⟨y, rfl⟩ : ∃ y, ks = [y] := by
        match ks, hl1 with
        | [y], _ => exact ⟨y, rfl⟩
      obtain ⟨kd, rfl, hyp⟩ := HK.out.pt (k := 0) (x := y) rfl
      rw [Nat.zero_mul, Addr.add_zero''] at hyp
      have HYP := Lib.hid hyp
      have HSY := Lib.hid (show sizeR y ≤ z by have h1 := HZ.out; simp only [sizeL] at h1; omega)
      have l1 : ((([y] : List Rd).length : Int) == 1) = true := rfl
      clear hyp hl1
      rcases hk23 with hk | hk
      · have b2 : (u.kind == 2) = true := beq_iff_eq.2 hk
        have HE0 := Lib.hid (chk_pre (ts := ts) (y := y) HG1.out HU.out g6 hk)
        go_upto_region 12 with (fail)
        cases q : tokB ts i u.sym.toList
        · have HE := Lib.hid (HE0.out.trans (by rw [q, Bool.false_and]))
          refine wp_region_ext (by kernel_rfl) (by kernel_rfl) ?_
          have EK0 := fun e : Ext w2 => (keep e.bel K1.out).cell 0
          have EK1 := fun e : Ext w2 => (keep e.bel K1.out).cell 1
          have EP2 := fun e : Ext w2 => e.cell (p := ⟨p.block, p.off + 2, none⟩) HPL.out HQ2.out
          have EU1 := fun e : Ext w2 => (keep e.bel KU.out).cell 1
          have EU4 := fun e : Ext w2 => (keep e.bel KU.out).cell 4
          have EU5 := fun e : Ext w2 => (keep e.bel KU.out).cell 5
          have HC0 := Lib.hid (fun e : Ext _ => by have h := is_any (some ad2) T rs.length cap cT ts (i) u.sym e.val (HT.out.keep e.bel) hi; rw [q] at h; exact Calls.ext h)
          repeat (go_big_quiet_step (fail))
          go_big_quiet_step ((rename_i e; exact HC0.out e))
          repeat (go_big_quiet_step (fail))
          refine wpQuiet_nil ?_
          intro wq hwq
          obtain ⟨⟨w9, hb⟩, e9⟩ := hwq
          dsimp only at e9
          subst e9
          have HB := Lib.hid (HB.out.trans (hb.mono HB.out.size))
          go_wp2_with fail
          go_ret
          exact ⟨ret_bool HE.out.symm, HB.out⟩
        · have HE := Lib.hid (HE0.out.trans (by rw [q, Bool.true_and]))
          refine wp_region_ext (by kernel_rfl) (by kernel_rfl) ?_
          have EK0 := fun e : Ext w2 => (keep e.bel K1.out).cell 0
          have EK1 := fun e : Ext w2 => (keep e.bel K1.out).cell 1
          have EP2 := fun e : Ext w2 => e.cell (p := ⟨p.block, p.off + 2, none⟩) HPL.out HQ2.out
          have EU1 := fun e : Ext w2 => (keep e.bel KU.out).cell 1
          have EU4 := fun e : Ext w2 => (keep e.bel KU.out).cell 4
          have EU5 := fun e : Ext w2 => (keep e.bel KU.out).cell 5
          have HC0 := Lib.hid (fun e : Ext _ => by have h := is_any (some ad2) T rs.length cap cT ts (i) u.sym e.val (HT.out.keep e.bel) hi; rw [q] at h; exact Calls.ext h)
          have HC1 := Lib.hid (fun e : Ext _ => by have h := IH.out ok y _ (i + 1) (j) u.right e.val HSY.out (HR.out.keep e.bel) (HT.out.keep e.bel) (HYP.out.keep e.bel) hj; rw [show ((i + 1 : Nat) : Int) = (i : Int) + 1 by omega] at h; exact Calls.ext h)
          repeat (go_big_quiet_step (fail))
          go_big_quiet_step ((rename_i e; exact HC0.out e))
          repeat (go_big_quiet_step (fail))
          go_big_quiet_step ((rename_i e; exact HC1.out e))
          repeat (go_big_quiet_step (fail))
          refine wpQuiet_nil ?_
          intro wq hwq
          obtain ⟨⟨w9, hb⟩, e9⟩ := hwq
          dsimp only at e9
          subst e9
          have HB := Lib.hid (HB.out.trans (hb.mono HB.out.size))
          go_wp2_with fail
          go_ret
          exact ⟨ret_bool HE.out.symm, HB.out⟩
      · have b2 : (u.kind == 2) = false := by rw [beq_eq_false_iff_ne]; omega
        have b3 : (u.kind == 3) = true := beq_iff_eq.2 hk
        have HE0 := Lib.hid (chk_post (ts := ts) (y := y) HG1.out HU.out g6 hk)
        go_upto_region 13 with (fail)
        cases q : tokB ts (j - 1) u.sym.toList
        · have HE := Lib.hid (HE0.out.trans (by rw [q, Bool.false_and]))
          refine wp_region_ext (by kernel_rfl) (by kernel_rfl) ?_
          have EK0 := fun e : Ext w2 => (keep e.bel K1.out).cell 0
          have EK1 := fun e : Ext w2 => (keep e.bel K1.out).cell 1
          have EP2 := fun e : Ext w2 => e.cell (p := ⟨p.block, p.off + 2, none⟩) HPL.out HQ2.out
          have EU1 := fun e : Ext w2 => (keep e.bel KU.out).cell 1
          have EU4 := fun e : Ext w2 => (keep e.bel KU.out).cell 4
          have EU5 := fun e : Ext w2 => (keep e.bel KU.out).cell 5
          have HC0 := Lib.hid (fun e : Ext _ => by have h := is_any (some ad2) T rs.length cap cT ts (j - 1) u.sym e.val (HT.out.keep e.bel) (by omega); rw [q] at h; rw [show ((j - 1 : Nat) : Int) = (j : Int) - 1 by omega] at h; exact Calls.ext h)
          repeat (go_big_quiet_step (fail))
          go_big_quiet_step ((rename_i e; exact HC0.out e))
          repeat (go_big_quiet_step (fail))
          refine wpQuiet_nil ?_
          intro wq hwq
          obtain ⟨⟨w9, hb⟩, e9⟩ := hwq
          dsimp only at e9
          subst e9
          have HB := Lib.hid (HB.out.trans (hb.mono HB.out.size))
          go_wp2_with fail
          go_ret
          exact ⟨ret_bool HE.out.symm, HB.out⟩
        · have HE := Lib.hid (HE0.out.trans (by rw [q, Bool.true_and]))
          refine wp_region_ext (by kernel_rfl) (by kernel_rfl) ?_
          have EK0 := fun e : Ext w2 => (keep e.bel K1.out).cell 0
          have EK1 := fun e : Ext w2 => (keep e.bel K1.out).cell 1
          have EP2 := fun e : Ext w2 => e.cell (p := ⟨p.block, p.off + 2, none⟩) HPL.out HQ2.out
          have EU1 := fun e : Ext w2 => (keep e.bel KU.out).cell 1
          have EU4 := fun e : Ext w2 => (keep e.bel KU.out).cell 4
          have EU5 := fun e : Ext w2 => (keep e.bel KU.out).cell 5
          have HC0 := Lib.hid (fun e : Ext _ => by have h := is_any (some ad2) T rs.length cap cT ts (j - 1) u.sym e.val (HT.out.keep e.bel) (by omega); rw [q] at h; rw [show ((j - 1 : Nat) : Int) = (j : Int) - 1 by omega] at h; exact Calls.ext h)
          have HC1 := Lib.hid (fun e : Ext _ => by have h := IH.out ok y _ (i) (j - 1) u.left e.val HSY.out (HR.out.keep e.bel) (HT.out.keep e.bel) (HYP.out.keep e.bel) (by omega); rw [show ((j - 1 : Nat) : Int) = (j : Int) - 1 by omega] at h; exact Calls.ext h)
          repeat (go_big_quiet_step (fail))
          go_big_quiet_step ((rename_i e; exact HC0.out e))
          repeat (go_big_quiet_step (fail))
          go_big_quiet_step ((rename_i e; exact HC1.out e))
          repeat (go_big_quiet_step (fail))
          refine wpQuiet_nil ?_
          intro wq hwq
          obtain ⟨⟨w9, hb⟩, e9⟩ := hwq
          dsimp only at e9
          subst e9
          have HB := Lib.hid (HB.out.trans (hb.mono HB.out.size))
          go_wp2_with fail
          go_ret
          exact ⟨ret_bool HE.out.symm, HB.out⟩
    have b2 : (u.kind == 2) = false := by rw [beq_eq_false_iff_ne]; omega
    have b3 : (u.kind == 3) = false := by rw [beq_eq_false_iff_ne]; omega
    by_cases hl2 : ks.length = 2
    case neg =>
      have HE := Lib.hid (chk_two_bad (ts := ts) (p := least) HG1.out HU.out hk23 hl2)
      have l2 : ((ks.length : Int) == 2) = false := by rw [beq_eq_false_iff_ne]; omega
      go_wp2_with fail
      go_ret
      exact ⟨ret_bool HE.out.symm, HB.out⟩
    obtain ⟨y, z', rfl⟩ : ∃ y z', ks = [y, z'] := by
      match ks, hl2 with
      | [y, z'], _ => exact ⟨y, z', rfl⟩
    obtain ⟨kd, rfl, hyp⟩ := HK.out.pt (k := 0) (x := y) rfl
    obtain ⟨kd', e9, hzp⟩ := HK.out.pt (k := 1) (x := z') rfl
    obtain rfl := Option.some.inj e9
    rw [Nat.zero_mul, Addr.add_zero''] at hyp
    have hzp : PtAt ok w2 ⟨kd.block, kd.off + 3, none⟩ z' := hzp
    have HYP := Lib.hid hyp
    have HZP := Lib.hid hzp
    have HSY := Lib.hid (show sizeR y ≤ z by have h1 := HZ.out; simp only [sizeL] at h1; omega)
    have HSZ2 := Lib.hid (show sizeR z' ≤ z by have h1 := HZ.out; simp only [sizeL] at h1; omega)
    have l2 : ((([y, z'] : List Rd).length : Int) == 2) = true := rfl
    obtain ⟨hkb, A5, c5, z0, z1, z2, _⟩ := hzp
    replace z1 : w2.cell? ⟨kd.block, kd.off + 3 + 1, none⟩ = some (.int .i64 z'.at_) := z1
    clear hyp e9 z0 z2 hl2
    by_cases o1 : z'.at_ ≤ (i : Int)
    · have HE := Lib.hid (chk_two_out (ts := ts) (p := least) (y := y) HG1.out HU.out hk23 (.inl o1))
      go_wp2_with fail
      go_ret
      exact ⟨ret_bool HE.out.symm, HB.out⟩
    by_cases o2 : (j : Int) ≤ z'.at_
    · have HE := Lib.hid (chk_two_out (ts := ts) (p := least) (y := y) HG1.out HU.out hk23 (.inr o2))
      go_wp2_with fail
      go_ret
      exact ⟨ret_bool HE.out.symm, HB.out⟩
    obtain ⟨m, hm⟩ : ∃ m : Nat, z'.at_ = m := ⟨z'.at_.toNat, by omega⟩
    have o3 : i < m := by omega
    have o4 : m < j := by omega
    have HM := Lib.hid hm
    rw [hm] at z1
    have o1' : ¬ (m : Int) ≤ (i : Int) := by omega
    have o2' : ¬ (j : Int) ≤ (m : Int) := by omega
    have o1n : ¬ m ≤ i := by omega
    have o2n : ¬ j ≤ m := by omega
    clear hm o1 o2
    by_cases hk1 : u.kind = 1
    · have b1 : (u.kind == 1) = true := beq_iff_eq.2 hk1
      have HE0 := Lib.hid (chk_in (ts := ts) (y := y) HG1.out HU.out g6 hk1 HM.out o3 o4)
      have u1 := KU.out.cell 1
      have k0 := K1.out.cell 0
      have k1 := K1.out.cell 1
      go_wp2_with fail
      have hI := is_any (some ad2) T rs.length cap cT ts (m - 1) u.sym w2 HT.out (by omega)
      rw [show ((m - 1 : Nat) : Int) = (m : Int) - 1 by omega] at hI
      refine hI.mono ?_
      clear hI
      rintro e w3 ⟨rfl, hb⟩
      replace HR := Lib.hid (HR.out.keep hb)
      replace HT := Lib.hid (HT.out.keep hb)
      replace HK := Lib.hid (HK.out.keep hb)
      replace K1 := Lib.hid (keep hb K1.out)
      replace HQ0 := Lib.hid ((hb.cell (show p.block < _ from HPL.out)).trans HQ0.out)
      replace HQ1 := Lib.hid ((hb.cell (p := ⟨p.block, p.off + 1, none⟩) (show p.block < _ from HPL.out)).trans HQ1.out)
      replace HQ2 := Lib.hid ((hb.cell (p := ⟨p.block, p.off + 2, none⟩) (show p.block < _ from HPL.out)).trans HQ2.out)
      replace HPL := Lib.hid (show p.block < _ from Nat.lt_of_lt_of_le HPL.out hb.size)
      replace HB := Lib.hid (HB.out.trans (hb.mono HB.out.size))
      replace KU := Lib.hid (keep hb KU.out)
      replace HYP := Lib.hid (HYP.out.keep hb)
      replace HZP := Lib.hid (HZP.out.keep hb)
      clear hb u1 k0 k1 z1 u0 HQ2x
      cases q0 : tokB ts (m - 1) u.sym.toList
      · have HE := Lib.hid (HE0.out.trans (by rw [q0, Bool.false_and]))
        go_wp2_with fail
        go_ret
        exact ⟨ret_bool HE.out.symm, HB.out⟩
      rw [q0, Bool.true_and] at HE0
      go_upto_region 24 with (fail)
      cases q : chkR rs ts y i (m - 1) u.left
      · have HE := Lib.hid (HE0.out.trans (by rw [q, Bool.false_and]))
        refine wp_region_ext (by kernel_rfl) (by kernel_rfl) ?_
        have EK0 := fun e : Ext w3 => (keep e.bel K1.out).cell 0
        have EK1 := fun e : Ext w3 => (keep e.bel K1.out).cell 1
        have EP2 := fun e : Ext w3 => e.cell (p := ⟨p.block, p.off + 2, none⟩) HPL.out HQ2.out
        have EU1 := fun e : Ext w3 => (keep e.bel KU.out).cell 1
        have EU4 := fun e : Ext w3 => (keep e.bel KU.out).cell 4
        have EU5 := fun e : Ext w3 => (keep e.bel KU.out).cell 5
        have HC0 := Lib.hid (fun e : Ext _ => by have h := IH.out ok y _ (i) (m - 1) u.left e.val HSY.out (HR.out.keep e.bel) (HT.out.keep e.bel) (HYP.out.keep e.bel) (by omega); rw [q] at h; rw [show ((m - 1 : Nat) : Int) = (m : Int) - 1 by omega] at h; exact Calls.ext h)
        repeat (go_big_quiet_step (fail))
        go_big_quiet_step ((rename_i e; exact HC0.out e))
        repeat (go_big_quiet_step (fail))
        refine wpQuiet_nil ?_
        intro wq hwq
        obtain ⟨⟨w9, hb⟩, e9⟩ := hwq
        dsimp only at e9
        subst e9
        have HB := Lib.hid (HB.out.trans (hb.mono HB.out.size))
        go_wp2_with fail
        go_ret
        exact ⟨ret_bool HE.out.symm, HB.out⟩
      · have HE := Lib.hid (HE0.out.trans (by rw [q, Bool.true_and]))
        refine wp_region_ext (by kernel_rfl) (by kernel_rfl) ?_
        have EK0 := fun e : Ext w3 => (keep e.bel K1.out).cell 0
        have EK1 := fun e : Ext w3 => (keep e.bel K1.out).cell 1
        have EP2 := fun e : Ext w3 => e.cell (p := ⟨p.block, p.off + 2, none⟩) HPL.out HQ2.out
        have EU1 := fun e : Ext w3 => (keep e.bel KU.out).cell 1
        have EU4 := fun e : Ext w3 => (keep e.bel KU.out).cell 4
        have EU5 := fun e : Ext w3 => (keep e.bel KU.out).cell 5
        have HC0 := Lib.hid (fun e : Ext _ => by have h := IH.out ok y _ (i) (m - 1) u.left e.val HSY.out (HR.out.keep e.bel) (HT.out.keep e.bel) (HYP.out.keep e.bel) (by omega); rw [q] at h; rw [show ((m - 1 : Nat) : Int) = (m : Int) - 1 by omega] at h; exact Calls.ext h)
        have HC1 := Lib.hid (fun e : Ext _ => by have h := IH.out ok z' _ (m) (j) u.right e.val HSZ2.out (HR.out.keep e.bel) (HT.out.keep e.bel) (HZP.out.keep e.bel) hj; exact Calls.ext h)
        repeat (go_big_quiet_step (fail))
        go_big_quiet_step ((rename_i e; exact HC0.out e))
        repeat (go_big_quiet_step (fail))
        go_big_quiet_step ((rename_i e; exact HC1.out e))
        repeat (go_big_quiet_step (fail))
        refine wpQuiet_nil ?_
        intro wq hwq
        obtain ⟨⟨w9, hb⟩, e9⟩ := hwq
        dsimp only at e9
        subst e9
        have HB := Lib.hid (HB.out.trans (hb.mono HB.out.size))
        go_wp2_with fail
        go_ret
        exact ⟨ret_bool HE.out.symm, HB.out⟩
    · have b1 : (u.kind == 1) = false := beq_eq_false_iff_ne.2 hk1
      have HE0 := Lib.hid (chk_jux (ts := ts) (y := y) HG1.out HU.out g6 hk23 hk1 HM.out o3 o4)
      go_upto_region 24 with (fail)
      clear z1 u0 HQ2x
      cases q : chkR rs ts y i (m) u.left
      · have HE := Lib.hid (HE0.out.trans (by rw [q, Bool.false_and]))
        refine wp_region_ext (by kernel_rfl) (by kernel_rfl) ?_
        have EK0 := fun e : Ext w2 => (keep e.bel K1.out).cell 0
        have EK1 := fun e : Ext w2 => (keep e.bel K1.out).cell 1
        have EP2 := fun e : Ext w2 => e.cell (p := ⟨p.block, p.off + 2, none⟩) HPL.out HQ2.out
        have EU1 := fun e : Ext w2 => (keep e.bel KU.out).cell 1
        have EU4 := fun e : Ext w2 => (keep e.bel KU.out).cell 4
        have EU5 := fun e : Ext w2 => (keep e.bel KU.out).cell 5
        have HC0 := Lib.hid (fun e : Ext _ => by have h := IH.out ok y _ (i) (m) u.left e.val HSY.out (HR.out.keep e.bel) (HT.out.keep e.bel) (HYP.out.keep e.bel) (by omega); rw [q] at h; exact Calls.ext h)
        repeat (go_big_quiet_step (fail))
        go_big_quiet_step ((rename_i e; exact HC0.out e))
        repeat (go_big_quiet_step (fail))
        refine wpQuiet_nil ?_
        intro wq hwq
        obtain ⟨⟨w9, hb⟩, e9⟩ := hwq
        dsimp only at e9
        subst e9
        have HB := Lib.hid (HB.out.trans (hb.mono HB.out.size))
        go_wp2_with fail
        go_ret
        exact ⟨ret_bool HE.out.symm, HB.out⟩
      · have HE := Lib.hid (HE0.out.trans (by rw [q, Bool.true_and]))
        refine wp_region_ext (by kernel_rfl) (by kernel_rfl) ?_
        have EK0 := fun e : Ext w2 => (keep e.bel K1.out).cell 0
        have EK1 := fun e : Ext w2 => (keep e.bel K1.out).cell 1
        have EP2 := fun e : Ext w2 => e.cell (p := ⟨p.block, p.off + 2, none⟩) HPL.out HQ2.out
        have EU1 := fun e : Ext w2 => (keep e.bel KU.out).cell 1
        have EU4 := fun e : Ext w2 => (keep e.bel KU.out).cell 4
        have EU5 := fun e : Ext w2 => (keep e.bel KU.out).cell 5
        have HC0 := Lib.hid (fun e : Ext _ => by have h := IH.out ok y _ (i) (m) u.left e.val HSY.out (HR.out.keep e.bel) (HT.out.keep e.bel) (HYP.out.keep e.bel) (by omega); rw [q] at h; exact Calls.ext h)
        have HC1 := Lib.hid (fun e : Ext _ => by have h := IH.out ok z' _ (m) (j) u.right e.val HSZ2.out (HR.out.keep e.bel) (HT.out.keep e.bel) (HZP.out.keep e.bel) hj; exact Calls.ext h)
        repeat (go_big_quiet_step (fail))
        go_big_quiet_step ((rename_i e; exact HC0.out e))
        repeat (go_big_quiet_step (fail))
        go_big_quiet_step ((rename_i e; exact HC1.out e))
        repeat (go_big_quiet_step (fail))
        refine wpQuiet_nil ?_
        intro wq hwq
        obtain ⟨⟨w9, hb⟩, e9⟩ := hwq
        dsimp only at e9
        subst e9
        have HB := Lib.hid (HB.out.trans (hb.mono HB.out.size))
        go_wp2_with fail
        go_ret
        exact ⟨ret_bool HE.out.symm, HB.out⟩
end Go.Proofs.Ytmhddlhlniajpaa
