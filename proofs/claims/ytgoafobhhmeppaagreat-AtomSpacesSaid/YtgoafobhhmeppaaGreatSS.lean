/- Spaces of the program and of the reference. -/
import Derived.Test.YtgoafobhhmeppaaGreatFT
import Derived.Test.YtgoafobhhmeppaaGreatL5
import Derived.Test.YtgoafobhhmeppaaGreatC1
namespace Go.Proofs.YtgoafobhhmeppaaGreat
open Go.RowKit
theorem ent_bd {es : List Ent} (h : dictB es = true) (s : List UInt8) : 0 ≤ clsOf es s ∧ clsOf es s ≤ 7 := by
  unfold dictB at h
  rw [Bool.and_eq_true, dict_all, Bool.and_eq_true] at h
  have ha := h.2.1
  unfold clsOf findE
  cases hf : es.find? (fun e => e.text.data.toList == s) with
  | none => simp
  | some e =>
    have hm := List.mem_of_find?_eq_some hf
    have he := List.all_eq_true.1 ha e hm
    unfold entB at he
    simp at he
    simp
    omega
theorem cls_bd {es : List Ent} (h : dictB es = true) : ∀ (m : Nat) (t : Tre), countT t < m → 0 ≤ classT es t ∧ classT es t ≤ 7 := by
  intro m
  induction m with
  | zero => intro t h; omega
  | succ m ih =>
    intro t hm
    obtain ⟨k, s, c, ks⟩ := t
    rw [classT.eq_def]
    dsimp only
    split
    · exact ent_bd h _
    · split
      · split
        · rename_i u _
          refine ih u ?_
          simp only [countT, countL] at hm
          omega
        · omega
      · split <;> omega
theorem row_bd {own : List Int} (h : ∀ x ∈ own, 0 ≤ x ∧ x ≤ 7) {i : Nat} {x : Int} (hx : (rowL own)[i]? = some x) : 0 ≤ x ∧ x ≤ 7 := by
  have hl := (List.getElem?_eq_some_iff.1 hx).1
  rw [rowL_len] at hl
  have ho : own[i]? = some own[i] := List.getElem?_eq_getElem hl
  rcases row_become own i own[i] ho with h1 | ⟨_, h1⟩
  · rw [hx] at h1
    obtain rfl := Option.some.inj h1
    exact h _ (List.getElem_mem _)
  · rw [hx] at h1
    obtain rfl := Option.some.inj h1
    omega
theorem classes_bd {es : List Ent} {ts : List Tre} (h : dictB es = true) : ∀ (i : Nat) (x : Int), (rowL (ts.map (classT es)))[i]? = some x → 0 ≤ x ∧ x ≤ 7 := fun i x hx => by
  refine row_bd (fun y hy => ?_) hx
  obtain ⟨t, _, rfl⟩ := List.mem_map.1 hy
  exact cls_bd h (countT t + 1) t (by omega)
/-- the lengths ahead of the items -/
def spsL (q : Int) (cs : List Int) (level : Int) : List Int := (List.range cs.length).map fun i => if i = 0 then 0 else lenP q (cs.getD (i - 1) 0).toNat (cs.getD i 0).toNat level
theorem spsL_len (q : Int) (cs : List Int) (level : Int) : (spsL q cs level).length = cs.length := by unfold spsL; simp
theorem spsL_at {q : Int} {cs : List Int} {level : Int} {k : Nat} (h : k < cs.length) : (spsL q cs level)[k]? = some (if k = 0 then 0 else lenP q (cs.getD (k - 1) 0).toNat (cs.getD k 0).toNat level) := by
  unfold spsL
  rw [List.getElem?_map, List.getElem?_range h]
  rfl
theorem cls_at {cs : List Int} (hb : ∀ (i : Nat) (x : Int), cs[i]? = some x → 0 ≤ x ∧ x ≤ 7) {m : Nat} (h : m + 1 < cs.length) : ∃ x y : Nat, cs[m]? = some (x : Int) ∧ cs[m + 1]? = some (y : Int) ∧ x < 8 ∧ y < 8 := by
  have h1 : cs[m]? = some cs[m] := List.getElem?_eq_getElem (by omega)
  have h2 : cs[m + 1]? = some cs[m + 1] := List.getElem?_eq_getElem h
  have b1 := hb _ _ h1
  have b2 := hb _ _ h2
  exact ⟨cs[m].toNat, cs[m + 1].toNat, by rw [h1, Int.toNat_of_nonneg b1.1], by rw [h2, Int.toNat_of_nonneg b2.1], by omega, by omega⟩
theorem getD_of {cs : List Int} {k : Nat} {x : Int} (h : cs[k]? = some x) : cs.getD k 0 = x := by rw [List.getD_eq_getElem?_getD, h]; rfl
theorem sps_snoc {q : Int} {cs : List Int} {level : Int} {m x y : Nat} (hx : cs[m]? = some (x : Int)) (hy : cs[m + 1]? = some (y : Int)) : (spsL q cs level).take (m + 1 + 1) = (spsL q cs level).take (m + 1) ++ [lenP q x y level] := by
  have hl := (List.getElem?_eq_some_iff.1 hy).1
  rw [List.take_add_one, spsL_at hl, if_neg (by omega), getD_of (show cs[m + 1 - 1]? = some (x : Int) by simpa using hx), getD_of hy, Int.toNat_natCast, Int.toNat_natCast]
  rfl
theorem sps_one {q : Int} {cs : List Int} {level : Int} (h : 0 < cs.length) : (spsL q cs level).take 1 = [0] := by
  rw [show (1 : Nat) = 0 + 1 from rfl, List.take_add_one, spsL_at h, if_pos rfl]
  rfl
theorem sps_start {q : Int} {cs : List Int} {level : Int} {n : Nat} (h : cs.length = n) : (spsL q cs level).take 1 ++ List.replicate (n - 1) 0 = List.replicate n 0 := by
  cases n with
  | zero =>
    obtain rfl := List.eq_nil_of_length_eq_zero h
    rfl
  | succ n =>
    rw [sps_one (by omega), Nat.add_sub_cancel, List.replicate_succ]
    rfl
theorem sps_set {q : Int} {cs : List Int} {level : Int} {n m x y : Nat} (h : cs.length = n) (hm : m + 1 < n) (hx : cs[m]? = some (x : Int)) (hy : cs[m + 1]? = some (y : Int)) :
    ((spsL q cs level).take (m + 1) ++ List.replicate (n - (m + 1)) 0)[m + 1]? = some 0 ∧ ((spsL q cs level).take (m + 1) ++ List.replicate (n - (m + 1)) 0).set (m + 1) (lenP q x y level) = (spsL q cs level).take (m + 1 + 1) ++ List.replicate (n - (m + 1 + 1)) 0 := by
  have hl : ((spsL q cs level).take (m + 1)).length = m + 1 := by rw [List.length_take, spsL_len]; omega
  obtain ⟨d, hd⟩ : ∃ d, n - (m + 1) = d + 1 := ⟨n - (m + 1) - 1, by omega⟩
  rw [sps_snoc hx hy, hd, show n - (m + 1 + 1) = d by omega, List.replicate_succ]
  generalize (spsL q cs level).take (m + 1) = acc at *
  refine ⟨by rw [← hl]; exact get_mid _ _ _, ?_⟩
  rw [← hl, set_mid, List.append_assoc, List.singleton_append]
theorem sps_end {q : Int} {cs : List Int} {level : Int} {n k : Nat} (h : cs.length = n) (hk : n ≤ k) : (spsL q cs level).take k ++ List.replicate (n - k) 0 = spsL q cs level := by
  rw [List.take_of_length_le (by rw [spsL_len]; omega), show n - k = 0 by omega, List.replicate_zero, List.append_nil]
def okS (es : List Ent) (ts : List Tre) (b : Bool) (level : Int) : Bool := okC es ts && (b && lvlB level)
def resS (es : List Ent) (ts : List Tre) (b : Bool) (q s1 s2 level : Int) : List Int := if okS es ts b level = true then spsL (rndP (q * pctV level s1 s2) 100) (rowL (ts.map (classT es))) level else []
def errS (es : List Ent) (ts : List Tre) (b : Bool) (level : Int) : Int := if okS es ts b level = true then 0 else 1
def SpacesP (es : List Ent) (ts : List Tre) (b : Bool) (q s1 s2 level : Int) (w : World) (e : Ending) (w' : World) : Prop := ∃ v, e = .returned (.tuple #[v, .int .i64 (errS es ts b level)]) ∧ OwnI w' w.heap.size v (resS es ts b q s1 s2 level) ∧ Below w.heap.size w w'
theorem spaces_bad {es : List Ent} {ts : List Tre} {b : Bool} {q s1 s2 level : Int} {w w' : World} {e : Ending} (h : okS es ts b level = false) (he : e = .returned (.tuple #[.slice none 0 0, .int .i64 1])) (hb : Below w.heap.size w w') : SpacesP es ts b q s1 s2 level w e w' := by
  refine ⟨.slice none 0 0, ?_, ?_, hb⟩
  · rw [he]; unfold errS; rw [h]; rfl
  · unfold resS; rw [h]; exact own_nil _ _
theorem spaces_good {es : List Ent} {ts : List Tre} {b : Bool} {q s1 s2 level : Int} {w w' : World} {e : Ending} {v : Value} (h : okS es ts b level = true) (he : e = .returned (.tuple #[v, .int .i64 0])) (ho : OwnI w' w.heap.size v (resS es ts b q s1 s2 level)) (hb : Below w.heap.size w w') : SpacesP es ts b q s1 s2 level w e w' := by
  refine ⟨v, ?_, ho, hb⟩
  rw [he]; unfold errS; rw [h]; rfl
theorem row_cell5 {w : World} {gl : Nat} {xs : List Int} (h : IntsO w (some ⟨gl, 0, none⟩) xs) {j : Nat} {x : Int} (hx : xs[j]? = some x) : w.cell? ⟨gl, j, none⟩ = some (.int .i64 x) := by
  obtain ⟨g, e, _, hc⟩ := h j x hx
  obtain rfl : gl = g := by simpa using e
  exact hc
theorem row_own {w : World} {B B' n : Nat} {xs : List Int} (h : ROW w B B n n xs) (hB : B' ≤ B) (hl : xs.length = n) : OwnI w B' (.slice (some ⟨B, 0, none⟩) n n) xs := by
  refine OwnI.more (B := B) ?_ hB
  unfold OwnI
  rw [hl]
  exact h
/-- while a length is stored -/
def InvS (w6 : World) (n k : Nat) (xs : List Int) (v : Int) : List Bool → Unit → World → Prop
  | [s], _, wq => Below w6.heap.size w6 wq ∧ ROW wq w6.heap.size w6.heap.size n n (if s = true then xs.set k v else xs)
  | _, _, _ => False
theorem InvS.kept {w6 : World} {n k : Nat} {xs : List Int} {v : Int} {s : Bool} {wq w' : World} (h : InvS w6 n k xs v [s] () wq) (hb : Below wq.heap.size wq w') : InvS w6 n k xs v [s] () w' :=
  ⟨h.1.trans (hb.mono h.1.size), row_keep h.2 hb⟩
set_option maxRecDepth 100000 in
set_option maxHeartbeats 4000000 in
theorem aspaces_any (cs : Array Value) (b : Bool) (q s1 s2 : Int) (FA : World → Prop) (F : FontIs cs b q s1 s2 FA) (A A2 : Option Addr) (cap cap2 : Nat) (es : List Ent) (ts : List Tre) (level : Int) (cr : Bool) (w : World) (hn : es.length ≤ 1000000) (ht : ts.length ≤ 1000000) (hc : ts.length ≤ cap2) (hc2 : cap2 ≤ 9223372036854775807) (hE : EntsAt w A es) (hK : KidsAt w A2 ts) (hF : FA w) : Calls Tryz.prog 7 #[.agg cs, .slice A es.length cap, .slice A2 ts.length cap2, .agg #[.int .i64 level, .bool cr]] w (SpacesP es ts b q s1 s2 level w) := by
  obtain ⟨i0, hi, hz0, hz1, hz2⟩ := info_parts info_int
  have HF := Lib.hid F
  have HFA := Lib.hid hF
  have HE := Lib.hid hE
  have HK := Lib.hid hK
  have K0 := Lib.hid ((Blk.new w 27 cs).alloc (.cells #[.int .i64 level, .bool cr] 33))
  have K1 := Lib.hid (Blk.new (w.alloc (.cells cs 27)) 33 #[.int .i64 level, .bool cr])
  have H0 := Lib.hid ((bel_alloc w (.cells cs 27)).alloc (by simp) (.cells #[.int .i64 level, .bool cr] 33))
  rw [show (w.alloc (.cells cs 27)).heap.size = w.heap.size + 1 by simp] at K1
  clear F hF hE hK
  have HQ := Lib.hid (show okS es ts b level = ((dictB es && validT (.mk 1 ⟨#[]⟩ 0 ts)) && (b && lvlB level)) from rfl)
  go_enter Tryz.func7, Tryz.ntmps7
  go_upto_region 1 with (fail)
  generalize (w.alloc (.cells cs 27)).alloc (.cells #[.int .i64 level, .bool cr] 33) = w1 at *
  go_wp2_with (refine wpList_load_rowW (by rfl) 27 (.tmp 4) rfl w.heap.size rfl 27 cs (0, 0) _ K0.out Tryz.underlying27 rfl HF.out.size ?_)
  refine (HF.out.valid w1 (HF.out.keep HFA.out H0.out)).mono ?_
  rintro e w2 ⟨rfl, hb⟩
  replace K0 := Lib.hid (keep hb K0.out)
  replace K1 := Lib.hid (keep hb K1.out)
  replace H0 := Lib.hid (H0.out.trans (hb.mono H0.out.size))
  clear hb
  cases hbb : b
  · rw [hbb, Bool.false_and, Bool.and_false] at HQ
    subst hbb
    go_wp2_with fail
    go_ret2
    exact spaces_bad HQ.out rfl H0.out
  subst hbb
  rw [Bool.true_and] at HQ
  go_wp2_with fail
  refine (ovalid_any A cap es w2 (HE.out.keep H0.out) hn).mono ?_
  rintro e w3 ⟨rfl, hb⟩
  replace K0 := Lib.hid (keep hb K0.out)
  replace K1 := Lib.hid (keep hb K1.out)
  replace H0 := Lib.hid (H0.out.trans (hb.mono H0.out.size))
  clear hb
  cases hd : dictB es
  · rw [hd, Bool.false_and, Bool.false_and] at HQ
    clear hd
    go_wp2_with fail
    go_ret2
    exact spaces_bad HQ.out rfl H0.out
  have HD := Lib.hid hd
  rw [hd, Bool.true_and] at HQ
  clear hd
  have c0 := K1.out.cell 0
  have c1 := K1.out.cell 1
  go_wp2_with fail
  refine (svalid_any level cr w3).mono ?_
  rintro e w4 ⟨rfl, hb⟩
  clear c0 c1
  replace K0 := Lib.hid (keep hb K0.out)
  replace K1 := Lib.hid (keep hb K1.out)
  replace H0 := Lib.hid (H0.out.trans (hb.mono H0.out.size))
  clear hb
  cases hl : lvlB level
  · rw [hl, Bool.and_false] at HQ
    clear hl
    go_wp2_with fail
    go_ret2
    exact spaces_bad HQ.out rfl H0.out
  have HL := Lib.hid hl
  rw [hl, Bool.and_true] at HQ
  clear hl
  go_wp2_with fail
  refine (nitems_any A2 cap2 ts w4 (HK.out.keep H0.out) hc hc2).mono ?_
  rintro e w5 ⟨rfl, hb⟩
  replace K0 := Lib.hid (keep hb K0.out)
  replace K1 := Lib.hid (keep hb K1.out)
  replace H0 := Lib.hid (H0.out.trans (hb.mono H0.out.size))
  clear hb
  cases hv : validT (.mk 1 ⟨#[]⟩ 0 ts)
  · rw [hv] at HQ
    clear hv
    go_wp2_with fail
    go_ret2
    exact spaces_bad HQ.out rfl H0.out
  rw [hv] at HQ
  clear hv
  have HCB := Lib.hid (classes_bd (ts := ts) HD.out)
  obtain ⟨⟨hq0, hq1⟩, hs1, hs2⟩ := HF.out.fits rfl
  have hpb := pct_bd (level := level) hs1 hs2
  have HQB := Lib.hid (rnd_bd ⟨hq0, hq1⟩ hpb)
  have HPB := Lib.hid (And.intro (And.intro hq0 hq1) hpb)
  clear hs1 hs2 hpb hq0 hq1
  have c0 := K1.out.cell 0
  have c1 := K1.out.cell 1
  have HP := Lib.hid (show pctR level true s1 s2 = .tuple #[.int .i64 (pctV level s1 s2), .int .i64 0] by unfold pctR; rw [HL.out]; rfl)
  go_wp2_with (refine wpList_load_rowW (by rfl) 27 (.tmp 4) rfl w.heap.size rfl 27 cs (0, 0) _ K0.out Tryz.underlying27 rfl HF.out.size ?_)
  refine (percent_any cs true q s1 s2 FA HF.out level cr w5 (HF.out.keep HFA.out H0.out)).mono ?_
  rintro e w7 ⟨rfl, hb⟩
  rw [HP.out]
  clear c0 c1
  replace K0 := Lib.hid (keep hb K0.out)
  replace K1 := Lib.hid (keep hb K1.out)
  replace H0 := Lib.hid (H0.out.trans (hb.mono H0.out.size))
  clear hb
  have c2 : w7.cell? ⟨w.heap.size, 2, none⟩ = some (.int .i64 q) := (K0.out.cell 2).trans HF.out.quad
  go_wp2_with fail
  refine (scale_any q (pctV level s1 s2) w7 (by have := HPB.out; omega) (by have := HPB.out; omega) (by have := HPB.out; omega) (by have := HPB.out; omega)).mono ?_
  rintro e w8 ⟨rfl, hb⟩
  clear c2 HPB
  replace K0 := Lib.hid (keep hb K0.out)
  replace K1 := Lib.hid (keep hb K1.out)
  replace H0 := Lib.hid (H0.out.trans (hb.mono H0.out.size))
  clear hb
  have HRES := Lib.hid (show resS es ts true q s1 s2 level = spsL (rndP (q * pctV level s1 s2) 100) (rowL (ts.map (classT es))) level by unfold resS; rw [HQ.out, if_pos rfl])
  generalize rndP (q * pctV level s1 s2) 100 = quad at *
  go_wp2_with fail
  refine (aclasses_any A A2 cap cap2 es ts w8 hn ht (HE.out.keep H0.out) (HK.out.keep H0.out)).mono ?_
  rintro e w6 ⟨v, rfl, ho, hb⟩
  have HLEN := Lib.hid (show (rowL (ts.map (classT es))).length = ts.length by rw [rowL_len, List.length_map])
  generalize rowL (ts.map (classT es)) = cl at *
  obtain ⟨A5, cap5, rfl, _, hcap5, hI⟩ := ho.form
  have HI := Lib.hid hI
  have HC5 := Lib.hid hcap5
  clear ho hI hcap5
  replace K0 := Lib.hid (keep hb K0.out)
  replace K1 := Lib.hid (keep hb K1.out)
  replace H0 := Lib.hid (H0.out.trans (hb.mono H0.out.size))
  clear hb
  rw [HLEN.out]
  go_wp2_with (refine wpList_make_full _ rfl _ _ 37 rfl w6.heap.size 3 i0 (.int .i64 0) 1 Tryz.underlying37 hi hz0 hz1 _ _ _ _ ts.length rfl rfl rfl rfl (by rw [hz2]; omega) (by unfold maxLen; omega) (Nat.le_refl _) ?_)
  intro w9 hown hgrow
  have H9 := Lib.hid ((Below.refl w6.heap.size w6).grown hgrow (Nat.le_refl _) (fun k hk => by cases hk))
  have HR := Lib.hid (show ROW w9 w6.heap.size w6.heap.size ts.length ts.length (List.replicate ts.length 0) by
    unfold ROW
    rw [show (List.replicate ts.length (0 : Int)).map (Value.int .i64) = (madeCells #[Value.int .i64 0] ts.length).toList from (made_ints _).symm]
    exact hown)
  clear hown hgrow
  generalize hnn : ts.length = n at *
  have HNN := Lib.hid hnn
  clear hnn
  go_wp2_with fail
  go_loopw [15] (fun i wr => ∃ (k : Nat), 1 ≤ k ∧ k ≤ n + 1 ∧ i = .int .i64 k ∧ Hid (ROW wr w6.heap.size w6.heap.size n n ((spsL quad cl level).take k ++ List.replicate (n - k) 0)) ∧ Hid (Below w6.heap.size w6 wr)) (fun i _ => n + 1 - (intOf i).toNat)
  case atStart => exact ⟨1, by omega, by omega, rfl, Lib.hid (by rw [sps_start HLEN.out]; exact HR.out), H9⟩
  case round =>
    clear HR H9
    obtain ⟨k, hk1, hkn, rfl, HR, HB⟩ := hrel
    obtain ⟨m, rfl⟩ : ∃ m, k = m + 1 := ⟨k - 1, by omega⟩
    by_cases hlt : m + 1 < n
    · obtain ⟨x, y, hx, hy, hxb, hyb⟩ := cls_at HCB.out (show m + 1 < cl.length by rw [HLEN.out]; exact hlt)
      obtain ⟨gl, hA5, _, _⟩ := HI.out m _ hx
      subst hA5
      have HXY := Lib.hid (And.intro hxb hyb)
      have HSN := Lib.hid (sps_set (q := quad) (level := level) HLEN.out hlt hx hy)
      obtain ⟨hz, hset⟩ := HSN.out
      have HSET := Lib.hid hset
      have hm1 : m < n := by omega
      have hm2 : m + 1 < n := hlt
      have hmi : ((m + 1 : Nat) : Int) = (m : Int) + 1 := by omega
      have hci : (m : Int) + 1 < (n : Int) := by omega
      clear hset hxb hyb HSN
      go_upto_region 12 with (fail)
      refine region_ghost (X := Unit) (by kernel_rfl) _ (fun _ => [.slice (some ⟨w6.heap.size, 0, none⟩) n n, .int .i64 ((m + 1 : Nat) : Int), .int .i64 quad, .slice (some ⟨gl, 0, none⟩) n cap5, .int .i64 ((m + 1 : Nat) : Int), .int .i64 (m : Nat), .pointer (some ⟨gl, m, none⟩), .int .i64 (x : Nat), .slice (some ⟨gl, 0, none⟩) n cap5, .int .i64 ((m + 1 : Nat) : Int), .pointer (some ⟨gl, m + 1, none⟩), .int .i64 (y : Nat), .agg #[.int .i64 level, .bool cr], .int .i64 (lenP quad x y level), .pointer (some ⟨w6.heap.size, m + 1, none⟩), undef]) [true, true, true, true, true, true, true, true, true, true, true, true, true, true, true, true] [15] (InvS w6 n (m + 1) ((spsL quad cl level).take (m + 1) ++ List.replicate (n - (m + 1)) 0) (lenP quad x y level)) () (by kernel_rfl) (fun gx => by simp [fin, finOn, dstAt, List.range, List.range.loop, Act.put]; rfl) (fun _ => by kernel_rfl) (by kernel_rfl) ⟨below_drew HB.out, row_keep HR.out (below_drew (Below.refl _ _))⟩ ?_ ?_
      · refine ⟨fun L gx wq hL hb ha hI => ?_, fun L gx wq hL hb ha hI => ?_, fun L gx wq hL hb ha hI => ?_, fun L gx wq hL hb ha hI => ?_, fun L gx wq hL hb ha hI => ?_, fun L gx wq hL hb ha hI => ?_, fun L gx wq hL hb ha hI => ?_, fun L gx wq hL hb ha hI => ?_, fun L gx wq hL hb ha hI => ?_, fun L gx wq hL hb ha hI => ?_, fun L gx wq hL hb ha hI => ?_, fun L gx wq hL hb ha hI => ?_, fun L gx wq hL hb ha hI => ?_, fun L gx wq hL hb ha hI => ?_, fun L gx wq hL hb ha hI => ?_, fun L gx wq hL hb ha hI => ?_, trivial⟩
        · exact Gives.plain (v := .slice (some ⟨w6.heap.size, 0, none⟩) n n) (w' := wq) (by kernel_rfl) rfl hI
        · exact Gives.plain (v := .int .i64 ((m + 1 : Nat) : Int)) (w' := wq) (by kernel_rfl) rfl hI
        · exact Gives.plain (v := .int .i64 quad) (w' := wq) (by kernel_rfl) rfl hI
        · exact Gives.plain (v := .slice (some ⟨gl, 0, none⟩) n cap5) (w' := wq) (by kernel_rfl) rfl hI
        · exact Gives.plain (v := .int .i64 ((m + 1 : Nat) : Int)) (w' := wq) (by kernel_rfl) rfl hI
        · exact Gives.plain (v := .int .i64 (m : Nat)) (w' := wq) (by simp [go_sem]; exact IntWalk.i64_in _ (by omega)) rfl hI
        · exact Gives.plain (v := .pointer (some ⟨gl, m, none⟩)) (w' := wq) (by simp [go_sem, hm1]) rfl hI
        · have cJ := row_cell5 (HI.out.keep hI.1) hx
          exact Gives.plain (v := .int .i64 (x : Nat)) (w' := wq) (by simp [go_sem, cJ]) rfl hI
        · exact Gives.plain (v := .slice (some ⟨gl, 0, none⟩) n cap5) (w' := wq) (by kernel_rfl) rfl hI
        · exact Gives.plain (v := .int .i64 ((m + 1 : Nat) : Int)) (w' := wq) (by kernel_rfl) rfl hI
        · exact Gives.plain (v := .pointer (some ⟨gl, m + 1, none⟩)) (w' := wq) (by simp [go_sem]; intro h; have := h (by omega); omega) rfl hI
        · have cJ := row_cell5 (HI.out.keep hI.1) hy
          exact Gives.plain (v := .int .i64 (y : Nat)) (w' := wq) (by simp [go_sem, cJ]) rfl hI
        · have c0 := (keep hI.1 K1.out).cell 0
          have c1 := (keep hI.1 K1.out).cell 1
          exact Gives.plain (v := .agg #[.int .i64 level, .bool cr]) (w' := wq) (by simp [go_sem, c0, c1]) rfl hI
        · refine Gives.call (f := 22) (args := #[.int .i64 quad, .int .i64 (x : Nat), .int .i64 (y : Nat), .agg #[.int .i64 level, .bool cr]]) (w' := wq) (by kernel_rfl) ((space_any quad x y level cr wq HQB.out.1 HQB.out.2 HXY.out.1 HXY.out.2).mono ?_)
          rintro e wz ⟨rfl, hbz⟩
          exact ⟨_, rfl, (), rfl, KeepsV.same, InvS.kept hI hbz⟩
        · exact Gives.plain (v := .pointer (some ⟨w6.heap.size, m + 1, none⟩)) (w' := wq) (by simp [go_sem]; intro h; have := h (by omega); omega) rfl hI
        · have e15 : L 15 = false := hL
          simp only [List.map, e15] at hI ⊢
          obtain ⟨h1, h2⟩ := hI
          have e0 := row_cell h2 hz
          have f0 := fun j => World.ownsRow.frozenAt h2 j
          exact Gives.skip (w' := wq.setCell ⟨w6.heap.size, m + 1, none⟩ (.int .i64 (lenP quad x y level))) (by simp [go_sem, e0, f0]) ⟨(), rfl, KeepsV.same, h1.setCell (p := ⟨w6.heap.size, m + 1, none⟩) (Nat.le_refl _) _, row_store h2 (m + 1) _⟩
      intro gx wq hI
      have HB2 := Lib.hid hI.1
      have HR2 := Lib.hid (show ROW wq w6.heap.size w6.heap.size n n ((spsL quad cl level).take (m + 1 + 1) ++ List.replicate (n - (m + 1 + 1)) 0) by rw [← HSET.out]; exact hI.2)
      clear hI HB HR hx hy hz
      go_wp2_with fail
      go_roundw
      case rel => exact ⟨m + 1 + 1, by omega, by omega, by go_num, HR2, HB2⟩
      case measure => simp [intOf]; omega
    · have HEND := Lib.hid (sps_end (q := quad) (level := level) HLEN.out (show n ≤ m + 1 by omega))
      have hni : ¬ ((m : Int) + 1 < (n : Int)) := by omega
      have HO := Lib.hid (show ROW wr w6.heap.size w6.heap.size n n (spsL quad cl level) by rw [← HEND.out]; exact HR.out)
      clear HR
      go_wp2_with fail
      go_ret2
      refine spaces_good HQ.out rfl ?_ (H0.out.trans (HB.out.mono H0.out.size))
      rw [HRES.out]
      exact row_own HO.out (by have := H0.out.size; omega) (spsL_len _ _ _ |>.trans HLEN.out)
set_option maxRecDepth 100000 in
set_option maxHeartbeats 4000000 in
theorem rspaces_any (cs : Array Value) (b : Bool) (q s1 s2 : Int) (FA : World → Prop) (F : FontIs cs b q s1 s2 FA) (RV : ∀ w, FA w → Calls Tryz.prog 24 #[.agg cs] w fun e w' => e = .returned (.bool b) ∧ Below w.heap.size w w') (A A2 : Option Addr) (cap cap2 : Nat) (es : List Ent) (ts : List Tre) (level : Int) (cr : Bool) (w : World) (hn : es.length ≤ 1000000) (ht : ts.length ≤ 1000000) (hm : countL ts < 900000) (hc : ts.length ≤ cap2) (hc2 : cap2 ≤ 9223372036854775807) (hE : EntsAt w A es) (hK : KidsAt w A2 ts) (hF : FA w) : Calls Tryz.prog 8 #[.agg cs, .slice A es.length cap, .slice A2 ts.length cap2, .agg #[.int .i64 level, .bool cr]] w (SpacesP es ts b q s1 s2 level w) := by
  obtain ⟨i0, hi, hz0, hz1, hz2⟩ := info_parts info_int
  have HF := Lib.hid F
  have HFA := Lib.hid hF
  have HE := Lib.hid hE
  have HK := Lib.hid hK
  have K0 := Lib.hid ((Blk.new w 27 cs).alloc (.cells #[.int .i64 level, .bool cr] 33))
  have K1 := Lib.hid (Blk.new (w.alloc (.cells cs 27)) 33 #[.int .i64 level, .bool cr])
  have H0 := Lib.hid ((bel_alloc w (.cells cs 27)).alloc (by simp) (.cells #[.int .i64 level, .bool cr] 33))
  rw [show (w.alloc (.cells cs 27)).heap.size = w.heap.size + 1 by simp] at K1
  have HRV := Lib.hid RV
  have HMC := Lib.hid hm
  clear F hF hE hK RV hm
  have HQ := Lib.hid (show okS es ts b level = (okC es ts && (b && lvlB level)) from rfl)
  have HQC := Lib.hid (show okC es ts = (dictB es && validT (.mk 1 ⟨#[]⟩ 0 ts)) from rfl)
  go_enter Tryz.func8, Tryz.ntmps8
  go_upto_region 1 with (fail)
  generalize (w.alloc (.cells cs 27)).alloc (.cells #[.int .i64 level, .bool cr] 33) = w1 at *
  go_wp2_with fail
  refine (rClasses_any A A2 cap cap2 es ts w1 hn ht HMC.out hc hc2 (HE.out.keep H0.out) (HK.out.keep H0.out)).mono ?_
  rintro e w2 ⟨v, rfl, ho, hb⟩
  have HO := Lib.hid ho
  clear ho
  replace K0 := Lib.hid (keep hb K0.out)
  replace K1 := Lib.hid (keep hb K1.out)
  replace H0 := Lib.hid (H0.out.trans (hb.mono H0.out.size))
  clear hb
  cases hok : okC es ts
  · have her := Lib.hid (show errC es ts = 1 by unfold errC; rw [hok]; rfl)
    rw [hok, Bool.false_and] at HQ
    rw [her.out]
    clear hok
    go_wp2_with fail
    go_ret2
    exact spaces_bad HQ.out rfl H0.out
  have her := Lib.hid (show errC es ts = 0 by unfold errC; rw [hok]; rfl)
  have hres := Lib.hid (show resC es ts = rowL (ts.map (classT es)) by unfold resC; rw [hok]; rfl)
  rw [hok, Bool.true_and] at HQ
  rw [hok] at HQC
  rw [her.out]
  rw [hres.out] at HO
  clear hok her hres
  have HD := Lib.hid (show dictB es = true by have h := HQC.out.symm; rw [Bool.and_eq_true] at h; exact h.1)
  have HCB := Lib.hid (classes_bd (ts := ts) HD.out)
  go_wp2_with (refine wpList_load_rowW (by rfl) 27 (.tmp 4) rfl w.heap.size rfl 27 cs (0, 0) _ K0.out Tryz.underlying27 rfl HF.out.size ?_)
  refine (HRV.out w2 (HF.out.keep HFA.out H0.out)).mono ?_
  rintro e w3 ⟨rfl, hb⟩
  replace HO := Lib.hid (HO.out.keep hb)
  replace K0 := Lib.hid (keep hb K0.out)
  replace K1 := Lib.hid (keep hb K1.out)
  replace H0 := Lib.hid (H0.out.trans (hb.mono H0.out.size))
  clear hb
  cases hbb : b
  · rw [hbb, Bool.false_and] at HQ
    subst hbb
    go_wp2_with fail
    go_ret2
    exact spaces_bad HQ.out rfl H0.out
  subst hbb
  rw [Bool.true_and] at HQ
  have c0 := K1.out.cell 0
  have c1 := K1.out.cell 1
  go_wp2_with fail
  refine (rsvalid_any level cr w3).mono ?_
  rintro e w6 ⟨rfl, hb⟩
  clear c0 c1
  replace HO := Lib.hid (HO.out.keep hb)
  replace K0 := Lib.hid (keep hb K0.out)
  replace K1 := Lib.hid (keep hb K1.out)
  replace H0 := Lib.hid (H0.out.trans (hb.mono H0.out.size))
  clear hb
  cases hl : lvlB level
  · rw [hl] at HQ
    clear hl
    go_wp2_with fail
    go_ret2
    exact spaces_bad HQ.out rfl H0.out
  have HL := Lib.hid hl
  rw [hl] at HQ
  clear hl
  have HLR := Lib.hid (fun (x y : Nat) (w : World) (hx : x < 8) (hy : y < 8) => rlength_any cs q s1 s2 FA HF.out x y level cr w hx hy HL.out)
  have HRES := Lib.hid (show resS es ts true q s1 s2 level = spsL (rndP (q * pctV level s1 s2) 100) (rowL (ts.map (classT es))) level by unfold resS; rw [HQ.out, if_pos rfl])
  generalize rndP (q * pctV level s1 s2) 100 = quad at *
  have HLEN := Lib.hid (show (rowL (ts.map (classT es))).length = ts.length by rw [rowL_len, List.length_map])
  generalize rowL (ts.map (classT es)) = cl at *
  obtain ⟨A5, cap5, rfl, _, hcap5, hI⟩ := HO.out.form
  have HI := Lib.hid hI
  have HC5 := Lib.hid hcap5
  clear hI hcap5 HO
  rw [HLEN.out]
  generalize hnn : ts.length = n at *
  have HNN := Lib.hid hnn
  have HNN2 := Lib.hid ht
  clear hnn
  go_wp2_with fail
  go_loopw [12, 13] (fun v i wr => ∃ (k : Nat) (u : Value), k ≤ n ∧ i = .int .i64 k ∧ u = v ∧ Hid (OwnI wr w6.heap.size u ((spsL quad cl level).take k)) ∧ Hid (Below w6.heap.size w6 wr)) (fun _ i _ => n - (intOf i).toNat)
  case atStart => exact ⟨0, _, by omega, rfl, rfl, own_nil _ _, Lib.hid (Below.refl _ _)⟩
  case round =>
    obtain ⟨k, u, hkn, rfl, hu, HO, HB⟩ := hrel
    by_cases hlt : k < n
    · have HAL := Lib.hid (show ((spsL quad cl level).take k).length = k by rw [List.length_take, spsL_len, HLEN.out]; omega)
      rcases Nat.eq_zero_or_pos k with hk0 | hpos
      · subst hk0
        have HSN := Lib.hid (show (spsL quad cl level).take (0 + 1) = (spsL quad cl level).take 0 ++ [0] from sps_one (by rw [HLEN.out]; exact hlt))
        generalize (spsL quad cl level).take 0 = acc at *
        have hci : (0 : Int) < (n : Int) := by omega
        obtain ⟨A7, cap7, rfl, hcl7, hcap7, _⟩ := HO.out.form
        subst hu
        have hown := (show wr.ownsRow w6.heap.size 3 1 (.slice A7 acc.length cap7) acc.length (acc.map (Value.int .i64)) from HO.out).alloc (.cells #[.int .i64 (0)] 3)
        have HBL := Lib.hid (World.ownsRow.lt (show wr.ownsRow w6.heap.size 3 1 (.slice A7 acc.length cap7) acc.length (acc.map (Value.int .i64)) from HO.out))
        have HSZ := Lib.hid HB.out.size
        have hln : acc.length ≤ n := by rw [HAL.out]; omega
        have hn6 := HNN2.out
        go_wp2_with (at_builtin; refine wpList_append_own _ rfl (.tmp 53) (.tmp 55) 37 rfl w6.heap.size 3 i0 (.int .i64 0) 1 8 Tryz.underlying37 hi hz0 hz1 hz2 rfl (by decide) _ _ _ rfl hown ⟨wr.heap.size, 0, none⟩ 1 1 [.int .i64 (0)] rfl rfl (cells_new _ _ _) ?zc2 ?zc3 ?zc4 ?zc5 ?_)
        case zc2 => intro u hu; simp at hu; subst hu; rfl
        case zc3 => unfold maxLen; omega
        case zc4 => omega
        case zc5 => have := HSZ.out; simp; omega
        intro v' w10 hown' hgrow _
        have NB := Lib.hid ((HB.out.alloc HB.out.size (.cells #[.int .i64 (0)] 3)).grown hgrow (by have := HSZ.out; simp; omega) (fun k hk => (HBL.out k hk).1))
        have NO := Lib.hid (show OwnI w10 w6.heap.size v' ((spsL quad cl level).take (0 + 1)) by rw [HSN.out]; exact ints_snoc rfl hown')
        clear hown hown' hgrow HO HB hln hn6
        go_wp2_with fail
        go_roundw
        case rel => exact ⟨0 + 1, _, by omega, by go_num, rfl, NO, NB⟩
        case measure => simp [intOf]; omega
      · obtain ⟨m, rfl⟩ : ∃ m, k = m + 1 := ⟨k - 1, by omega⟩
        obtain ⟨x, y, hx, hy, hxb, hyb⟩ := cls_at HCB.out (show m + 1 < cl.length by rw [HLEN.out]; exact hlt)
        obtain ⟨gl, hA5, _, _⟩ := HI.out m _ hx
        subst hA5
        have HXY := Lib.hid (And.intro hxb hyb)
        have HSN := Lib.hid (sps_snoc (q := quad) (level := level) hx hy)
        generalize (spsL quad cl level).take (m + 1) = acc at *
        have hm1 : m < n := by omega
        have hm2 : m + 1 < n := hlt
        have hmi : ((m + 1 : Nat) : Int) = (m : Int) + 1 := by omega
        have hci : (m : Int) + 1 < (n : Int) := by omega
        have hcp : (0 : Int) < (m : Int) + 1 := by omega
        clear hxb hyb
        go_upto_region 10 with (fail)
        refine region_list (by kernel_rfl) _ [.agg cs, .slice (some ⟨gl, 0, none⟩) n cap5, .int .i64 ((m + 1 : Nat) : Int), .int .i64 (m : Nat), .pointer (some ⟨gl, m, none⟩), .int .i64 (x : Nat), .slice (some ⟨gl, 0, none⟩) n cap5, .int .i64 ((m + 1 : Nat) : Int), .pointer (some ⟨gl, m + 1, none⟩), .int .i64 (y : Nat), .agg #[.int .i64 level, .bool cr], .int .i64 (lenP quad x y level), .int .i64 (lenP quad x y level)] [true, true, true, true, true, true, true, true, true, true, true, true, true] (fun wq => Hid (OwnI wq w6.heap.size u acc) ∧ Hid (Below w6.heap.size w6 wq)) (by kernel_rfl) (by simp [fin, finOn, dstAt, List.range, List.range.loop, Act.put]; rfl) (by kernel_rfl) ⟨HO.out.keep (below_drew (Below.refl _ _)), below_drew HB.out⟩ ?_ ?_
        · refine ⟨fun wq hI => ?_, fun wq hI => ?_, fun wq hI => ?_, fun wq hI => ?_, fun wq hI => ?_, fun wq hI => ?_, fun wq hI => ?_, fun wq hI => ?_, fun wq hI => ?_, fun wq hI => ?_, fun wq hI => ?_, fun wq hI => ?_, fun wq hI => ?_, trivial⟩
          · exact gives_row_ext 27 (.tmp 4) rfl w.heap.size rfl 27 cs (0, 0) _ (keep hI.2.out K0.out) Tryz.underlying27 rfl HF.out.size ⟨rfl, hI⟩
          · exact Gives.value (v := .slice (some ⟨gl, 0, none⟩) n cap5) (w' := wq) (by kernel_rfl) ⟨rfl, hI⟩
          · exact Gives.value (v := .int .i64 ((m + 1 : Nat) : Int)) (w' := wq) (by kernel_rfl) ⟨rfl, hI⟩
          · exact Gives.value (v := .int .i64 (m : Nat)) (w' := wq) (by simp [go_sem]; exact IntWalk.i64_in _ (by omega)) ⟨rfl, hI⟩
          · exact Gives.value (v := .pointer (some ⟨gl, m, none⟩)) (w' := wq) (by simp [go_sem, hm1]) ⟨rfl, hI⟩
          · have cJ := row_cell5 (HI.out.keep hI.2.out) hx
            exact Gives.value (v := .int .i64 (x : Nat)) (w' := wq) (by simp [go_sem, cJ]) ⟨rfl, hI⟩
          · exact Gives.value (v := .slice (some ⟨gl, 0, none⟩) n cap5) (w' := wq) (by kernel_rfl) ⟨rfl, hI⟩
          · exact Gives.value (v := .int .i64 ((m + 1 : Nat) : Int)) (w' := wq) (by kernel_rfl) ⟨rfl, hI⟩
          · exact Gives.value (v := .pointer (some ⟨gl, m + 1, none⟩)) (w' := wq) (by simp [go_sem]; intro h; have := h (by omega); omega) ⟨rfl, hI⟩
          · have cJ := row_cell5 (HI.out.keep hI.2.out) hy
            exact Gives.value (v := .int .i64 (y : Nat)) (w' := wq) (by simp [go_sem, cJ]) ⟨rfl, hI⟩
          · have c0 := (keep hI.2.out K1.out).cell 0
            have c1 := (keep hI.2.out K1.out).cell 1
            exact Gives.value (v := .agg #[.int .i64 level, .bool cr]) (w' := wq) (by simp [go_sem, c0, c1]) ⟨rfl, hI⟩
          · refine Gives.call (f := 26) (args := #[.agg cs, .int .i64 (x : Nat), .int .i64 (y : Nat), .agg #[.int .i64 level, .bool cr]]) (w' := wq) (by kernel_rfl) ((HLR.out x y wq HXY.out.1 HXY.out.2).mono ?_)
            rintro e wz ⟨rfl, hbz⟩
            exact ⟨_, rfl, rfl, hI.1.out.keep hbz, hI.2.out.trans (hbz.mono hI.2.out.size)⟩
          · exact Gives.value (v := .int .i64 (lenP quad x y level)) (w' := wq) (by kernel_rfl) ⟨rfl, hI⟩
        intro wq hI
        clear HO HB hx hy
        obtain ⟨HO, HB⟩ := hI
        generalize wq = wr at *
        obtain ⟨A7, cap7, rfl, hcl7, hcap7, _⟩ := HO.out.form
        subst hu
        have hown := (show wr.ownsRow w6.heap.size 3 1 (.slice A7 acc.length cap7) acc.length (acc.map (Value.int .i64)) from HO.out).alloc (.cells #[.int .i64 (lenP quad x y level)] 3)
        have HBL := Lib.hid (World.ownsRow.lt (show wr.ownsRow w6.heap.size 3 1 (.slice A7 acc.length cap7) acc.length (acc.map (Value.int .i64)) from HO.out))
        have HSZ := Lib.hid HB.out.size
        have hln : acc.length ≤ n := by rw [HAL.out]; omega
        have hn6 := HNN2.out
        go_wp2_with (at_builtin; refine wpList_append_own _ rfl (.tmp 53) (.tmp 55) 37 rfl w6.heap.size 3 i0 (.int .i64 0) 1 8 Tryz.underlying37 hi hz0 hz1 hz2 rfl (by decide) _ _ _ rfl hown ⟨wr.heap.size, 0, none⟩ 1 1 [.int .i64 (lenP quad x y level)] rfl rfl (cells_new _ _ _) ?pc2 ?pc3 ?pc4 ?pc5 ?_)
        case pc2 => intro u hu; simp at hu; subst hu; rfl
        case pc3 => unfold maxLen; omega
        case pc4 => omega
        case pc5 => have := HSZ.out; simp; omega
        intro v' w10 hown' hgrow _
        have NB := Lib.hid ((HB.out.alloc HB.out.size (.cells #[.int .i64 (lenP quad x y level)] 3)).grown hgrow (by have := HSZ.out; simp; omega) (fun k hk => (HBL.out k hk).1))
        have NO := Lib.hid (show OwnI w10 w6.heap.size v' ((spsL quad cl level).take (m + 1 + 1)) by rw [HSN.out]; exact ints_snoc rfl hown')
        clear hown hown' hgrow HO HB hln hn6
        go_wp2_with fail
        go_roundw
        case rel => exact ⟨m + 1 + 1, _, by omega, by go_num, rfl, NO, NB⟩
        case measure => simp [intOf]; omega
    · obtain rfl : k = n := by omega
      have HT := Lib.hid (show (spsL quad cl level).take k = spsL quad cl level from List.take_of_length_le (by rw [spsL_len, HLEN.out]; omega))
      rw [HT.out] at HO
      subst hu
      go_wp2_with fail
      go_ret2
      refine spaces_good HQ.out rfl ?_ (H0.out.trans (HB.out.mono H0.out.size))
      rw [HRES.out]
      exact HO.out.more H0.out.size
end Go.Proofs.YtgoafobhhmeppaaGreat
