/- The statements' awake, and what they share. -/
import Derived.Test.YtgoafobhhmeppaaGreatL4
namespace Go.Proofs.YtgoafobhhmeppaaGreat
open Go.RowKit
theorem sym_node (s : ByteArray) (w : World) : Calls Tryz.prog 12 #[.string s] w fun e w' => e = .returned (.agg (nodC 2 s 0 none 0 0)) ∧ Below w.heap.size w w' := by
  go_enter Tryz.func12, Tryz.ntmps12
  go_wp2_with fail
  have N := Lib.hid (Blk.new w 46 (nodC 2 s 0 none 0 0))
  have NB := Lib.hid (bel_alloc w (.cells (nodC 2 s 0 none 0 0) 46))
  dsimp only [nodC] at N NB
  generalize w.alloc (.cells #[.int .i64 2, .string s, .int .i64 0, .slice none 0 0] 46) = wz at *
  have c := fun i => N.out.cell i
  exact bodyPost_ret (v := .agg (nodC 2 s 0 none 0 0)) (by simp [results, Tryz.results12, go_sem, c]) rfl ⟨rfl, NB.out⟩
theorem same_ok {xs ys : List Int} (hl : xs.length = ys.length) (h : ∀ (j : Nat) x y, xs[j]? = some x → ys[j]? = some y → x = y) : xs = ys := by
  refine List.ext_getElem? fun j => ?_
  rcases Nat.lt_or_ge j xs.length with hj | hj
  · have e1 := List.getElem?_eq_getElem hj
    have e2 : ys[j]? = some ys[j] := List.getElem?_eq_getElem (by omega)
    rw [e1, e2, h j _ _ e1 e2]
  · rw [List.getElem?_eq_none hj, List.getElem?_eq_none (by omega)]
set_option maxHeartbeats 800000 in
theorem same_any (A B : Option Addr) (c1 c2 : Nat) (xs ys : List Int) (w : World) (hA : IntsO w A xs) (hB : IntsO w B ys) (hx : xs.length ≤ 1000000) (hy : ys.length ≤ 1000000) : Calls Tryz.prog 9 #[.slice A xs.length c1, .slice B ys.length c2] w fun e w' => e = .returned (.bool (decide (xs = ys))) ∧ Below w.heap.size w w' := by
  have HA := Lib.hid hA
  have HB := Lib.hid hB
  clear hA hB
  by_cases hl : xs.length = ys.length
  · have HL := Lib.hid hl
    have hl' : ((xs.length : Int) == (ys.length : Int)) = true := by rw [beq_iff_eq]; omega
    have hl2 : ((xs.length : Int) != (ys.length : Int)) = false := by rw [bne, hl']; rfl
    clear hl
    go_enter Tryz.func9, Tryz.ntmps9
    go_wp2_with fail
    go_loopw [5] (fun i wr => ∃ k : Nat, k ≤ xs.length ∧ i = .int .i64 k ∧ Hid (∀ (j : Nat) x y, xs[j]? = some x → ys[j]? = some y → j < k → x = y) ∧ Hid (Below w.heap.size w wr)) (fun i _ => xs.length - (intOf i).toNat)
    case atStart => exact ⟨0, by omega, rfl, (fun j _ _ _ _ h => by omega), Below.refl _ _⟩
    case round =>
      obtain ⟨k, hk, rfl, HJ, HW⟩ := hrel
      by_cases hlt : k < xs.length
      · obtain ⟨x, hx0⟩ : ∃ x, xs[k]? = some x := ⟨_, List.getElem?_eq_getElem hlt⟩
        obtain ⟨y, hy0⟩ : ∃ y, ys[k]? = some y := ⟨_, List.getElem?_eq_getElem (by have := HL.out; omega)⟩
        obtain ⟨g1, rfl, _, d1⟩ := (HA.out.keep HW.out) k x hx0
        obtain ⟨g2, rfl, _, d2⟩ := (HB.out.keep HW.out) k y hy0
        have i1 : (0 : Int) ≤ (k : Int) := by omega
        have i2 : (k : Int) < (xs.length : Int) := by omega
        have i3 : (k : Int) < (ys.length : Int) := by have := HL.out; omega
        have HX := Lib.hid hx0
        have HY := Lib.hid hy0
        clear hx0 hy0
        cases hq : (x == y)
        · have hq2 : (x != y) = true := by rw [bne, hq]; rfl
          have HQ := Lib.hid (show decide (xs = ys) = false by
            rw [decide_eq_false_iff_not]
            rintro rfl
            have := HX.out.symm.trans HY.out
            rw [Option.some.injEq] at this
            rw [beq_eq_false_iff_ne] at hq
            exact hq this)
          go_wp2_with fail
          go_quiet (fail)
          have HW := Lib.hid (below_drewN HW.out nq)
          clear d1 d2 hq hq2
          go_wp2_with fail
          go_ret
          exact ⟨ret_bool HQ.out.symm, HW.out⟩
        · have hq2 : (x != y) = false := by rw [bne, hq]; rfl
          have HE := Lib.hid (beq_iff_eq.1 hq)
          go_wp2_with fail
          go_quiet (fail)
          have HW := Lib.hid (below_drewN HW.out nq)
          clear d1 d2 hq hq2
          go_wp2_with fail
          go_roundw
          case rel => exact ⟨k + 1, by omega, by go_num, (fun j x' y' hx' hy' h => by
            rcases Nat.lt_or_ge j k with h' | h'
            · exact HJ.out j x' y' hx' hy' h'
            · obtain rfl : j = k := by omega
              rw [HX.out] at hx'
              rw [HY.out] at hy'
              obtain rfl := Option.some.inj hx'
              obtain rfl := Option.some.inj hy'
              exact HE.out), HW⟩
          case measure => simp [intOf]; omega
      · have HQ := Lib.hid (show decide (xs = ys) = true by
          rw [decide_eq_true_iff]
          exact same_ok HL.out fun j x y h1 h2 => HJ.out j x y h1 h2 (by have := (List.getElem?_eq_some_iff.1 h1).1; omega))
        go_wp2_with fail
        go_ret
        exact ⟨ret_bool HQ.out.symm, HW.out⟩
  · have HQ := Lib.hid (show decide (xs = ys) = false by rw [decide_eq_false_iff_not]; rintro rfl; exact hl rfl)
    have hl' : ((xs.length : Int) == (ys.length : Int)) = false := by rw [beq_eq_false_iff_ne]; omega
    have hl2 : ((xs.length : Int) != (ys.length : Int)) = true := by rw [bne, hl']; rfl
    clear hl
    go_enter Tryz.func9, Tryz.ntmps9
    go_wp2_with fail
    go_ret
    exact ⟨ret_bool HQ.out.symm, Below.refl _ _⟩
def leafT (s : ByteArray) : Tre := .mk 2 s 0 []
def awS : List ByteArray := [⟨#[97]⟩, ⟨#[43]⟩, ⟨#[98]⟩, ⟨#[61]⟩, ⟨#[99]⟩]
def awT : List Tre := awS.map leafT
def awP : Nat → Int := fun i => [1000, 0, 0, 0, 0, 0, 0, 0, 0, 0, 0, 0, 0, 0, 0, 70, 50, 90, 0, 0].getD i 0
theorem kids_aw {w : World} {g : Nat} (h : Blk w g 46 #[.int .i64 2, .string ⟨#[97]⟩, .int .i64 0, .slice none 0 0, .int .i64 2, .string ⟨#[43]⟩, .int .i64 0, .slice none 0 0, .int .i64 2, .string ⟨#[98]⟩, .int .i64 0, .slice none 0 0, .int .i64 2, .string ⟨#[61]⟩, .int .i64 0, .slice none 0 0, .int .i64 2, .string ⟨#[99]⟩, .int .i64 0, .slice none 0 0]) : KidsAt w (some ⟨g, 0, none⟩) awT := fun i t hi => by
  have leaf : ∀ s : ByteArray, s.size ≤ 9223372036854775807 → NodAt w (leafT s) #[.int .i64 2, .string s, .int .i64 0, .slice none 0 0] := fun s hs => NodAt.of (ks := []) (A := none) (cap := 0) hs (Nat.le_refl _) (by omega) (fun i t hi => by simp at hi)
  have cell : ∀ n, w.cell? ((⟨g, 0, none⟩ : Addr).add n) = (#[.int .i64 2, .string ⟨#[97]⟩, .int .i64 0, .slice none 0 0, .int .i64 2, .string ⟨#[43]⟩, .int .i64 0, .slice none 0 0, .int .i64 2, .string ⟨#[98]⟩, .int .i64 0, .slice none 0 0, .int .i64 2, .string ⟨#[61]⟩, .int .i64 0, .slice none 0 0, .int .i64 2, .string ⟨#[99]⟩, .int .i64 0, .slice none 0 0] : Array Value)[n]? := fun n => by
    rw [show (⟨g, 0, none⟩ : Addr).add n = ⟨g, n, none⟩ by unfold Addr.add; split <;> simp_all]
    exact h.cell n
  refine ⟨⟨g, 0, none⟩, rfl, h.lt, ?_⟩
  match i, hi with
  | 0, hi =>
    obtain rfl : leafT ⟨#[97]⟩ = t := by simpa [awT, awS] using hi
    exact ⟨_, leaf _ (by show 1 ≤ _; omega), fun j hj => by rw [cell]; match j, hj with | 0, _ => rfl | 1, _ => rfl | 2, _ => rfl | 3, _ => rfl⟩
  | 1, hi =>
    obtain rfl : leafT ⟨#[43]⟩ = t := by simpa [awT, awS] using hi
    exact ⟨_, leaf _ (by show 1 ≤ _; omega), fun j hj => by rw [cell]; match j, hj with | 0, _ => rfl | 1, _ => rfl | 2, _ => rfl | 3, _ => rfl⟩
  | 2, hi =>
    obtain rfl : leafT ⟨#[98]⟩ = t := by simpa [awT, awS] using hi
    exact ⟨_, leaf _ (by show 1 ≤ _; omega), fun j hj => by rw [cell]; match j, hj with | 0, _ => rfl | 1, _ => rfl | 2, _ => rfl | 3, _ => rfl⟩
  | 3, hi =>
    obtain rfl : leafT ⟨#[61]⟩ = t := by simpa [awT, awS] using hi
    exact ⟨_, leaf _ (by show 1 ≤ _; omega), fun j hj => by rw [cell]; match j, hj with | 0, _ => rfl | 1, _ => rfl | 2, _ => rfl | 3, _ => rfl⟩
  | 4, hi =>
    obtain rfl : leafT ⟨#[99]⟩ = t := by simpa [awT, awS] using hi
    exact ⟨_, leaf _ (by show 1 ≤ _; omega), fun j hj => by rw [cell]; match j, hj with | 0, _ => rfl | 1, _ => rfl | 2, _ => rfl | 3, _ => rfl⟩
  | n + 5, hi => simp [awT, awS] at hi
theorem df9_size : ∀ e ∈ df9, e.text.size ≤ 9223372036854775807 := by decide +kernel
def freshTo (es : List Ent) : Nat → Bool
  | 0 => true
  | k + 1 => freshTo es k && (match es[k]? with
      | some x => !(((es.take k).map txtE).contains (txtE x))
      | none => true)
theorem dict_split (es : List Ent) : ∀ k, k ≤ es.length → dictTo es k = ((es.take k).all entB && freshTo es k)
  | 0, _ => rfl
  | k + 1, h => by
    have hk : es[k]? = some es[k] := List.getElem?_eq_getElem h
    rw [dictTo, freshTo, hk, dict_split es k (by omega), List.take_add_one, hk, Option.toList, List.all_append]
    simp only [List.all_cons, List.all_nil, Bool.and_true]
    generalize (es.take k).all entB = a
    generalize freshTo es k = b
    generalize entB es[k] = c
    generalize ((es.take k).map txtE).contains (txtE es[k]) = d
    cases a <;> cases b <;> cases c <;> cases d <;> rfl
theorem dict_all (es : List Ent) : dictTo es es.length = (es.all entB && freshTo es es.length) := by
  rw [dict_split es es.length (Nat.le_refl _), List.take_length]
theorem aw_ok : okC df9 awT = true := by
  have e1 : ∀ x : Ent, entB x = (x.text.data.toList.all p33 && (decide (1 ≤ x.text.size) && (decide (x.text.size ≤ 16) && (decide (0 ≤ x.cls) && decide (x.cls ≤ 7))))) := fun x => by unfold entB; rw [tl]
  have h1 : dictB df9 = true := by
    unfold dictB
    rw [dict_all]
    have h2 : (df9.all fun x => x.text.data.toList.all p33 && (decide (1 ≤ x.text.size) && (decide (x.text.size ≤ 16) && (decide (0 ≤ x.cls) && decide (x.cls ≤ 7))))) = true := by decide +kernel
    have h3 : (df9.all entB) = true := by
      rw [← h2]
      congr 1
      funext x
      exact e1 x
    rw [h3]
    decide +kernel
  unfold okC
  rw [h1]
  decide +kernel
theorem aw_res : resC df9 awT = [0, 2, 0, 3, 0] := by
  unfold resC
  rw [aw_ok]
  decide +kernel
theorem aw_err : errC df9 awT = 0 := by unfold errC; rw [aw_ok]; rfl
theorem aw_font : FontIs (fontC none 0 0 none 0 0 awP) true 1000 70 50 (fun _ => True) where
  keep := fun _ _ => trivial
  valid := fun w _ => by
    have := fvalid0_any awP w
    rw [show paramsB awP = true by decide] at this
    exact this
  size := by kernel_rfl
  quad := rfl
  scr := rfl
  scr2 := rfl
  fits := fun _ => by omega
theorem aw_space : spaceR true 1000 70 50 0 1 2 = .tuple #[.int .i64 117, .int .i64 0] := by rfl
set_option maxRecDepth 100000 in
set_option maxHeartbeats 4000000 in
theorem awake_any (w : World) : Calls Tryz.prog 4 #[] w fun e w' => e = .returned (.bool true) ∧ Below w.heap.size w w' := by
  go_enter Tryz.func4, Tryz.ntmps4
  go_wp2_with fail
  refine (default_any w).mono ?_
  rintro e w1 ⟨v, rfl, ho, hb⟩
  have HO := Lib.hid (show OwnEs w1 w.heap.size v df9 from ho)
  have HB := Lib.hid hb
  clear ho hb
  obtain ⟨A, cap, rfl, _, _⟩ := HO.out.form
  go_wp2_with fail
  refine (sym_node ⟨#[97]⟩ w1).mono ?_
  rintro e w2 ⟨rfl, hb⟩
  have HO := Lib.hid (HO.out.keep hb)
  have HB := Lib.hid (HB.out.trans (hb.mono HB.out.size))
  clear hb
  go_wp2_with fail
  refine (sym_node ⟨#[43]⟩ w2).mono ?_
  rintro e w3 ⟨rfl, hb⟩
  have HO := Lib.hid (HO.out.keep hb)
  have HB := Lib.hid (HB.out.trans (hb.mono HB.out.size))
  clear hb
  go_wp2_with fail
  refine (sym_node ⟨#[98]⟩ w3).mono ?_
  rintro e w4 ⟨rfl, hb⟩
  have HO := Lib.hid (HO.out.keep hb)
  have HB := Lib.hid (HB.out.trans (hb.mono HB.out.size))
  clear hb
  go_wp2_with fail
  refine (sym_node ⟨#[61]⟩ w4).mono ?_
  rintro e w5 ⟨rfl, hb⟩
  have HO := Lib.hid (HO.out.keep hb)
  have HB := Lib.hid (HB.out.trans (hb.mono HB.out.size))
  clear hb
  go_wp2_with fail
  refine (sym_node ⟨#[99]⟩ w5).mono ?_
  rintro e w6 ⟨rfl, hb⟩
  have HO := Lib.hid (HO.out.keep hb)
  have HB := Lib.hid (HB.out.trans (hb.mono HB.out.size))
  clear hb
  go_wp2_with fail
  have K0 := Lib.hid (Blk.new w6 46 #[.int .i64 2, .string ⟨#[97]⟩, .int .i64 0, .slice none 0 0, .int .i64 2, .string ⟨#[43]⟩, .int .i64 0, .slice none 0 0, .int .i64 2, .string ⟨#[98]⟩, .int .i64 0, .slice none 0 0, .int .i64 2, .string ⟨#[61]⟩, .int .i64 0, .slice none 0 0, .int .i64 2, .string ⟨#[99]⟩, .int .i64 0, .slice none 0 0])
  have HO := Lib.hid (HO.out.keep (bel_alloc w6 (.cells #[.int .i64 2, .string ⟨#[97]⟩, .int .i64 0, .slice none 0 0, .int .i64 2, .string ⟨#[43]⟩, .int .i64 0, .slice none 0 0, .int .i64 2, .string ⟨#[98]⟩, .int .i64 0, .slice none 0 0, .int .i64 2, .string ⟨#[61]⟩, .int .i64 0, .slice none 0 0, .int .i64 2, .string ⟨#[99]⟩, .int .i64 0, .slice none 0 0] 46)))
  have HB := Lib.hid (HB.out.alloc HB.out.size (.cells #[.int .i64 2, .string ⟨#[97]⟩, .int .i64 0, .slice none 0 0, .int .i64 2, .string ⟨#[43]⟩, .int .i64 0, .slice none 0 0, .int .i64 2, .string ⟨#[98]⟩, .int .i64 0, .slice none 0 0, .int .i64 2, .string ⟨#[61]⟩, .int .i64 0, .slice none 0 0, .int .i64 2, .string ⟨#[99]⟩, .int .i64 0, .slice none 0 0] 46))
  generalize w6.alloc (.cells #[.int .i64 2, .string ⟨#[97]⟩, .int .i64 0, .slice none 0 0, .int .i64 2, .string ⟨#[43]⟩, .int .i64 0, .slice none 0 0, .int .i64 2, .string ⟨#[98]⟩, .int .i64 0, .slice none 0 0, .int .i64 2, .string ⟨#[61]⟩, .int .i64 0, .slice none 0 0, .int .i64 2, .string ⟨#[99]⟩, .int .i64 0, .slice none 0 0] 46) = wk at *
  refine (aClasses_any A (some ⟨w6.heap.size, 0, none⟩) cap 5 df9 awT wk (by decide) (by decide) (by decide) (by decide) (HO.out.ents df9_size) (kids_aw K0.out)).mono ?_
  rintro e wc ⟨v, rfl, ho, hb⟩
  rw [aw_err]
  have HV := Lib.hid (show OwnI wc wk.heap.size v [0, 2, 0, 3, 0] by rw [← aw_res]; exact ho)
  have HB := Lib.hid (HB.out.trans (hb.mono HB.out.size))
  clear ho hb HO K0
  obtain ⟨A2, cap2, rfl, _, hcap2, hI⟩ := HV.out.form
  have HI := Lib.hid hI
  clear hI
  go_wp2_with (first
    | (refine wpList_build_to rfl 25 _ rfl (prmC awP) (by kernel_rfl) ?_)
    | (refine wpList_build_to rfl 27 #[(2, .tmp 17)] rfl (fontC none 0 0 none 0 0 awP) (by kernel_rfl) ?_)
    | (refine wpList_store_row (by rfl) 27 (.tmp 3) (.tmp 18) (by rfl) wc.heap.size (fontC none 0 0 none 0 0 awP) (by rfl) (by rfl) 27 _ (heap_alloc_new wc _) (by kernel_rfl) (by rfl) (by kernel_rfl) ?_; rw [World.setRow_alloc_new])
    | (refine wpList_load_rowW (by rfl) 27 (.tmp 3) rfl wc.heap.size rfl 27 (fontC none 0 0 none 0 0 awP) (0, 0) _ (heap_alloc_new wc _) Tryz.underlying27 rfl (by kernel_rfl) ?_))
  have HB := Lib.hid (HB.out.alloc HB.out.size (.cells (fontC none 0 0 none 0 0 awP) 27))
  have HI := Lib.hid (HI.out.keep (bel_alloc wc (.cells (fontC none 0 0 none 0 0 awP) 27)))
  generalize wc.alloc (.cells (fontC none 0 0 none 0 0 awP) 27) = wf at *
  refine (aspace_any (fontC none 0 0 none 0 0 awP) true 1000 70 50 _ aw_font 0 1 2 false wf trivial).mono ?_
  rw [aw_space]
  rintro e ws ⟨rfl, hb⟩
  have HI := Lib.hid (HI.out.keep hb)
  have HB := Lib.hid (HB.out.trans (hb.mono HB.out.size))
  clear hb
  go_wp2_with fail
  have K1 := Lib.hid (Blk.new ws 3 #[.int .i64 0, .int .i64 2, .int .i64 0, .int .i64 3, .int .i64 0])
  have HI := Lib.hid (HI.out.keep (bel_alloc ws (.cells #[.int .i64 0, .int .i64 2, .int .i64 0, .int .i64 3, .int .i64 0] 3)))
  have HB := Lib.hid (HB.out.alloc HB.out.size (.cells #[.int .i64 0, .int .i64 2, .int .i64 0, .int .i64 3, .int .i64 0] 3))
  generalize ws.alloc (.cells #[.int .i64 0, .int .i64 2, .int .i64 0, .int .i64 3, .int .i64 0] 3) = wt at *
  refine (same_any A2 (some ⟨ws.heap.size, 0, none⟩) cap2 5 [0, 2, 0, 3, 0] [0, 2, 0, 3, 0] wt HI.out (ints_blk K1.out rfl) (by decide) (by decide)).mono ?_
  rintro e wu ⟨rfl, hb⟩
  have HB := Lib.hid (HB.out.trans (hb.mono HB.out.size))
  clear hb
  go_wp2_with fail
  go_ret
  exact ⟨rfl, HB.out⟩
end Go.Proofs.YtgoafobhhmeppaaGreat
