/- Fonts: the parameters; a font without glyphs; the program. -/
import Derived.Test.YtgoafobhhmeppaaGreatL1
import Derived.Deep.MidRow
namespace Go.Proofs.YtgoafobhhmeppaaGreat
open Go.RowKit
def inAll (lo hi : Int) (xs : List Int) : Bool := xs.all fun x => decide (lo ≤ x) && decide (x ≤ hi)
theorem inAll_ok {lo hi : Int} {xs : List Int} (h : ∀ (j : Nat) x, xs[j]? = some x → lo ≤ x ∧ x ≤ hi) : inAll lo hi xs = true := by
  unfold inAll
  rw [List.all_eq_true]
  intro x hx
  obtain ⟨j, hj⟩ := List.mem_iff_getElem?.1 hx
  have := h j x hj
  simp [this.1, this.2]
theorem inAll_no {lo hi : Int} {xs : List Int} {j : Nat} {x : Int} (hx : xs[j]? = some x) (h : x < lo ∨ hi < x) : inAll lo hi xs = false := by
  unfold inAll
  rw [List.all_eq_false]
  refine ⟨x, List.mem_of_getElem? hx, ?_⟩
  simp
  omega
set_option maxHeartbeats 400000 in
theorem within_any (lo hi : Int) (A : Option Addr) (cap : Nat) (xs : List Int) (w : World) (hI : IntsO w A xs) (hn : xs.length ≤ 1000000) : Calls Tryz.prog 32 #[.int .i64 lo, .int .i64 hi, .slice A xs.length cap] w fun e w' => e = .returned (.bool (inAll lo hi xs)) ∧ w = w' := by
  have HI := Lib.hid hI
  clear hI
  go_enter Tryz.func32, Tryz.ntmps32
  go_wp2_with fail
  go_loop [11] (fun i => ∃ k : Nat, k ≤ xs.length ∧ i = .int .i64 k ∧ Hid (∀ (j : Nat) x, xs[j]? = some x → j < k → lo ≤ x ∧ x ≤ hi)) (fun i => xs.length - (intOf i).toNat)
  case atStart => exact ⟨0, by omega, rfl, fun j _ _ h => by omega⟩
  case round =>
    obtain ⟨k, hk, rfl, HJ⟩ := hrel
    by_cases hlt : k < xs.length
    · obtain ⟨x, hx⟩ : ∃ x, xs[k]? = some x := ⟨_, List.getElem?_eq_getElem hlt⟩
      obtain ⟨g, rfl, hg, c0⟩ := HI.out k x hx
      have HX := Lib.hid hx
      clear hx
      by_cases h1 : x < lo
      · have HQ := Lib.hid (inAll_no (hi := hi) HX.out (.inl h1))
        go_wp2_with fail
        go_ret
        exact ⟨ret_bool HQ.out.symm, rfl⟩
      · by_cases h2 : hi < x
        · have HQ := Lib.hid (inAll_no (lo := lo) HX.out (.inr h2))
          go_wp2_with fail
          go_ret
          exact ⟨ret_bool HQ.out.symm, rfl⟩
        · have HB := Lib.hid (show lo ≤ x ∧ x ≤ hi from ⟨by omega, by omega⟩)
          go_wp2_with fail
          go_round
          case rel => exact ⟨k + 1, by omega, by go_num, fun j y hj h => by
            rcases Nat.lt_or_ge j k with h' | h'
            · exact HJ.out j y hj h'
            · obtain rfl : j = k := by omega
              rw [HX.out] at hj
              obtain rfl := Option.some.inj hj
              exact HB.out⟩
          case measure => simp [intOf]; omega
    · have HQ := Lib.hid (inAll_ok (xs := xs) fun j x hj => HJ.out j x hj (by have := (List.getElem?_eq_some_iff.1 hj).1; omega))
      go_wp2_with fail
      go_ret
      exact ⟨ret_bool HQ.out.symm, rfl⟩
theorem ints_blk {w : World} {g : Nat} {xs : List Int} {cs : Array Value} (h : Blk w g 3 cs) (hc : cs = (xs.map (Value.int .i64)).toArray) : IntsO w (some ⟨g, 0, none⟩) xs := fun j x hj => by
  subst hc
  refine ⟨g, rfl, h.lt, ?_⟩
  rw [h.cell]
  simp [hj]
def prmL (p : Nat → Int) : List Value := [.int .i64 (p 0), .int .i64 (p 1), .int .i64 (p 2), .int .i64 (p 3), .int .i64 (p 4), .int .i64 (p 5), .int .i64 (p 6), .int .i64 (p 7), .int .i64 (p 8), .int .i64 (p 9), .int .i64 (p 10), .int .i64 (p 11), .int .i64 (p 12), .int .i64 (p 13), .int .i64 (p 14), .int .i64 (p 15), .int .i64 (p 16), .int .i64 (p 17), .int .i64 (p 18), .int .i64 (p 19)]
def prmC (p : Nat → Int) : Array Value := (prmL p).toArray
def fontC (A1 : Option Addr) (n1 c1 : Nat) (A2 : Option Addr) (n2 c2 : Nat) (p : Nat → Int) : Array Value := #[.slice A1 n1 c1, .slice A2 n2 c2, .int .i64 (p 0), .int .i64 (p 1), .int .i64 (p 2), .int .i64 (p 3), .int .i64 (p 4), .int .i64 (p 5), .int .i64 (p 6), .int .i64 (p 7), .int .i64 (p 8), .int .i64 (p 9), .int .i64 (p 10), .int .i64 (p 11), .int .i64 (p 12), .int .i64 (p 13), .int .i64 (p 14), .int .i64 (p 15), .int .i64 (p 16), .int .i64 (p 17), .int .i64 (p 18), .int .i64 (p 19)]
def paramsB (p : Nat → Int) : Bool := inAll 1 100 [p 15, p 16, p 17] && inAll 0 20000 [p 0, p 1, p 2, p 3, p 4, p 5, p 6, p 7, p 8, p 9, p 10, p 11, p 12, p 13, p 14, p 18, p 19]
set_option maxRecDepth 100000 in
set_option maxHeartbeats 800000 in
theorem vparams_any (p : Nat → Int) (w : World) : Calls Tryz.prog 30 #[.agg (prmC p)] w fun e w' => e = .returned (.bool (paramsB p)) ∧ Below w.heap.size w w' := by
  have HQ := Lib.hid (show paramsB p = (inAll 1 100 [p 15, p 16, p 17] && inAll 0 20000 [p 0, p 1, p 2, p 3, p 4, p 5, p 6, p 7, p 8, p 9, p 10, p 11, p 12, p 13, p 14, p 18, p 19]) from rfl)
  unfold prmC prmL
  go_enter Tryz.func30, Tryz.ntmps30
  go_wp2_with fail
  have K0 := Lib.hid ((Blk.new w 25 (prmC p)).alloc (.cells #[.int .i64 (p 15), .int .i64 (p 16), .int .i64 (p 17)] 3))
  have K1 := Lib.hid (Blk.new (w.alloc (.cells (prmC p) 25)) 3 #[.int .i64 (p 15), .int .i64 (p 16), .int .i64 (p 17)])
  have H0 := Lib.hid ((bel_alloc w (.cells (prmC p) 25)).alloc (by simp) (.cells #[.int .i64 (p 15), .int .i64 (p 16), .int .i64 (p 17)] 3))
  rw [show (w.alloc (.cells (prmC p) 25)).heap.size = w.heap.size + 1 by simp] at K1
  unfold prmC prmL at K0 K1 H0
  generalize (w.alloc (.cells _ 25)).alloc (.cells #[.int .i64 (p 15), .int .i64 (p 16), .int .i64 (p 17)] 3) = w1 at *
  refine (within_any 1 100 (some ⟨w.heap.size + 1, 0, none⟩) 3 [p 15, p 16, p 17] w1 (ints_blk K1.out rfl) (by simp)).mono ?_
  rintro e w2 ⟨rfl, rfl⟩
  cases h1 : inAll 1 100 [p 15, p 16, p 17]
  · rw [h1, Bool.false_and] at HQ
    clear h1
    go_wp2_with fail
    go_ret
    exact ⟨ret_bool HQ.out.symm, H0.out⟩
  · rw [h1, Bool.true_and] at HQ
    clear h1
    have c0 := K0.out.cell 0
    have c1 := K0.out.cell 1
    have c2 := K0.out.cell 2
    have c3 := K0.out.cell 3
    have c4 := K0.out.cell 4
    have c5 := K0.out.cell 5
    have c6 := K0.out.cell 6
    have c7 := K0.out.cell 7
    have c8 := K0.out.cell 8
    have c9 := K0.out.cell 9
    have c10 := K0.out.cell 10
    have c11 := K0.out.cell 11
    have c12 := K0.out.cell 12
    have c13 := K0.out.cell 13
    have c14 := K0.out.cell 14
    have c15 := K0.out.cell 15
    have c16 := K0.out.cell 16
    have c17 := K0.out.cell 17
    have c18 := K0.out.cell 18
    have c19 := K0.out.cell 19
    go_wp2_with fail
    have K2 := Lib.hid (Blk.new w1 3 #[.int .i64 (p 0), .int .i64 (p 1), .int .i64 (p 2), .int .i64 (p 3), .int .i64 (p 4), .int .i64 (p 5), .int .i64 (p 6), .int .i64 (p 7), .int .i64 (p 8), .int .i64 (p 9), .int .i64 (p 10), .int .i64 (p 11), .int .i64 (p 12), .int .i64 (p 13), .int .i64 (p 14), .int .i64 (p 18), .int .i64 (p 19)])
    have H2 := Lib.hid (H0.out.alloc H0.out.size (.cells #[.int .i64 (p 0), .int .i64 (p 1), .int .i64 (p 2), .int .i64 (p 3), .int .i64 (p 4), .int .i64 (p 5), .int .i64 (p 6), .int .i64 (p 7), .int .i64 (p 8), .int .i64 (p 9), .int .i64 (p 10), .int .i64 (p 11), .int .i64 (p 12), .int .i64 (p 13), .int .i64 (p 14), .int .i64 (p 18), .int .i64 (p 19)] 3))
    clear c0 c1 c2 c3 c4 c5 c6 c7 c8 c9 c10 c11 c12 c13 c14 c15 c16 c17 c18 c19
    generalize w1.alloc (.cells _ 3) = w3 at *
    refine (within_any 0 20000 (some ⟨w1.heap.size, 0, none⟩) 17 [p 0, p 1, p 2, p 3, p 4, p 5, p 6, p 7, p 8, p 9, p 10, p 11, p 12, p 13, p 14, p 18, p 19] w3 (ints_blk K2.out rfl) (by simp)).mono ?_
    rintro e w2 ⟨rfl, rfl⟩
    go_wp2_with fail
    go_ret
    exact ⟨ret_bool HQ.out.symm, H2.out⟩
theorem wpList_load_midW {P : Program} {ops : Array Oper} {rest : List Oper} {op : Oper} {a : Act} {w : World} {Q : Exit → Act → World → Prop} (hg : Region.wanted op (yielded ops a.tmps) = true) (ty : TypeId) (x : Operand) (ho : op.op = .load ty x)
    (b o : Nat) (hx : a.eval x = .pointer (some ⟨b, o, none⟩)) (cs : List Value) (d : TypeDesc) (hc : w.rangeAt b o cs)
    (hu : P.underlying ty = some d) (hd : d.isRow = true) (hi : (P.info? ty).map (·.size) = some cs.length)
    (h : wpList P ops Q rest (a.put op.dst (.agg cs.toArray)) w) : wpList P ops Q (op :: rest) a w :=
  wpList_wanted hg fun _ hK => wp_load_mid ty x ho b o hx cs d hc hu hd hi (hK _ _ h)
theorem range_blk {w : World} {g : Nat} {t : TypeId} {cs : Array Value} (h : Blk w g t cs) (o : Nat) (l : List Value) (hl : ∀ j v, l[j]? = some v → cs[o + j]? = some v) : w.rangeAt g o l := fun j v hj => by
  rw [h.cell]
  exact hl j v hj
theorem font_prm (A1 : Option Addr) (n1 c1 : Nat) (A2 : Option Addr) (n2 c2 : Nat) (p : Nat → Int) : ∀ j v, (prmL p)[j]? = some v → (fontC A1 n1 c1 A2 n2 c2 p)[2 + j]? = some v := by
  intro j v h
  have e : (fontC A1 n1 c1 A2 n2 c2 p).toList = .slice A1 n1 c1 :: .slice A2 n2 c2 :: prmL p := rfl
  rw [← Array.getElem?_toList, e, show 2 + j = (j + 1) + 1 by omega]
  simpa using h
set_option maxRecDepth 100000 in
set_option maxHeartbeats 1600000 in
theorem fvalid0_any (p : Nat → Int) (w : World) : Calls Tryz.prog 15 #[.agg (fontC none 0 0 none 0 0 p)] w fun e w' => e = .returned (.bool (paramsB p)) ∧ Below w.heap.size w w' := by
  have hmm := @run_makeMap_hint Tryz.prog _ _ _ Tryz.underlying67
  have K0 := Lib.hid (Blk.new w 27 (fontC none 0 0 none 0 0 p))
  have H0 := Lib.hid (bel_alloc w (.cells (fontC none 0 0 none 0 0 p) 27))
  have c0 : (w.alloc (.cells (fontC none 0 0 none 0 0 p) 27)).cell? ⟨w.heap.size, 0, none⟩ = some (.slice none 0 0) := K0.out.cell 0
  have c1 : (w.alloc (.cells (fontC none 0 0 none 0 0 p) 27)).cell? ⟨w.heap.size, 1, none⟩ = some (.slice none 0 0) := K0.out.cell 1
  have hr := Lib.hid (range_blk K0.out 2 (prmL p) (font_prm none 0 0 none 0 0 p))
  go_enter Tryz.func15, Tryz.ntmps15
  go_wp2_with (refine wpList_load_midW (by rfl) 25 (.tmp 24) rfl w.heap.size 2 rfl (prmL p) _ hr.out Tryz.underlying25 rfl (by kernel_rfl) ?_)
  have HCS := Lib.hid (show (fontC none 0 0 none 0 0 p)[0]? = some (.slice none 0 0) ∧ (fontC none 0 0 none 0 0 p)[1]? = some (.slice none 0 0) from ⟨rfl, rfl⟩)
  clear c0 c1 hr
  generalize fontC none 0 0 none 0 0 p = cs at *
  generalize w.alloc (.cells cs 27) = w1 at *
  refine (vparams_any p w1).mono ?_
  rintro e w2 ⟨rfl, hb⟩
  have K0 := Lib.hid (keep hb K0.out)
  have H0 := Lib.hid (H0.out.trans (hb.mono H0.out.size))
  clear hb
  generalize (prmL p).toArray = pc at *
  cases hp : paramsB p
  · have HP := Lib.hid hp
    clear hp
    go_wp2_with fail
    go_ret
    exact ⟨ret_bool HP.out.symm, H0.out⟩
  · have HP := Lib.hid hp
    clear hp
    have c0 : w2.cell? ⟨w.heap.size, 0, none⟩ = some (.slice none 0 0) := by rw [K0.out.cell 0]; exact HCS.out.1
    have c1 : w2.cell? ⟨w.heap.size, 1, none⟩ = some (.slice none 0 0) := by rw [K0.out.cell 1]; exact HCS.out.2
    have hl := K0.out.lt
    go_wp2_with fail
    go_loop [36] (fun i => i = .int .i64 0) (fun _ => 0)
    case atStart => rfl
    case round =>
      obtain rfl := hrel
      go_wp2_with fail
      go_loop [108] (fun i => i = .int .i64 0) (fun _ => 0)
      case atStart => rfl
      case round =>
        obtain rfl := hrel
        go_wp2_with fail
        go_ret
        exact ⟨ret_bool HP.out.symm, (H0.out.alloc H0.out.size _).alloc (by have := H0.out.size; simp; omega) _⟩
end Go.Proofs.YtgoafobhhmeppaaGreat
