/- Symbol, of the program and of the reference: whether a string is a symbol. -/
import Derived.Test.YtpokelkneblafaaGreatDoorGS0
import Derived.Test.YtpokelkneblafaaGreatDoorShelf
import Derived.Lib.SplitLaws
namespace Go.Proofs.YtpokelkneblafaaGreatDoor
open Go.RowKit
def Blk (w : World) (g : Nat) (t : TypeId) (cs : Array Value) : Prop := w.heap[g]? = some (.cells cs t (0, 0))
section
variable {w w' : World} {g : Nat} {t : TypeId} {cs : Array Value}
theorem Blk.lt (h : Blk w g t cs) : g < w.heap.size := by
  rcases Nat.lt_or_ge g w.heap.size with hlt | hge
  · exact hlt
  · unfold Blk at h; rw [Array.getElem?_eq_none hge] at h; cases h
theorem Blk.cell (h : Blk w g t cs) (i : Nat) : w.cell? ⟨g, i, none⟩ = cs[i]? := cell_of_row w g i cs t (0, 0) h
theorem Blk.frozen (h : Blk w g t cs) (i : Nat) : w.frozen? ⟨g, i, none⟩ = false := by
  unfold Blk at h
  simp [World.frozen?, h]
theorem Blk.new (w : World) (t : TypeId) (cs : Array Value) : Blk (w.alloc (.cells cs t)) w.heap.size t cs := heap_alloc_new w _
theorem Blk.drew (h : Blk w g t cs) : Blk w.drew g t cs := h
theorem Blk.drewN (h : Blk w g t cs) (n : Nat) : Blk (w.drewN n) g t cs := h
theorem Blk.alloc (h : Blk w g t cs) (o : Obj) : Blk (w.alloc o) g t cs := (Below.heap_alloc w o g h.lt).trans h
theorem Blk.set_ (h : Blk w g t cs) (i : Nat) (u : Value) : Blk (w.setCell ⟨g, i, none⟩ u) g t (cs.setIfInBounds i u) := by
  unfold Blk at h ⊢
  simp [World.setCell, Array.getElem?_modify, h]
theorem Blk.far (h : Blk w g t cs) {p : Addr} (hp : g ≠ p.block) (u : Value) : Blk (w.setCell p u) g t cs := (Below.heap_setCell w p u g hp).trans h
theorem Blk.below {B : Nat} (h : Blk w g t cs) (hb : Below B w w') (hg : g < B) : Blk w' g t cs := (hb.block g hg).trans h
theorem Blk.grown {row : Option Nat} (h : Blk w g t cs) (hb : w.grownBy w' row) (hg : some g ≠ row) : Blk w' g t cs := (hb.block g h.lt hg).trans h
end
theorem keep {W w1 : World} (hb : Below W.heap.size W w1) {g : Nat} {t : TypeId} {cs : Array Value} (h : Blk W g t cs) : Blk w1 g t cs := h.below hb h.lt
theorem below_drew {B : Nat} {a w : World} (h : Below B a w) : Below B a w.drew := ⟨h.os, h.tape, h.output, h.size, h.block⟩
theorem below_drewN {B : Nat} {a w : World} (h : Below B a w) (n : Nat) : Below B a (w.drewN n) := ⟨h.os, h.tape, h.output, h.size, h.block⟩
theorem bel_alloc (w : World) (o : Obj) : Below w.heap.size w (w.alloc o) := (Below.refl _ _).alloc (Nat.le_refl _) o
/-- strings in a row -/
def StrsAt (w : World) (g : Nat) (ss : List ByteArray) : Prop := g < w.heap.size ∧ ∀ (j : Nat) (s : ByteArray), ss[j]? = some s → w.cell? ⟨g, j, none⟩ = some (.string s)
theorem StrsAt.keep {w w' : World} {g : Nat} {ss : List ByteArray} (h : StrsAt w g ss) (hb : Below w.heap.size w w') : StrsAt w' g ss :=
  ⟨Nat.lt_of_lt_of_le h.1 hb.size, fun j p hj => (hb.cell (p := ⟨g, j, none⟩) h.1).trans (h.2 j p hj)⟩
theorem StrsAt.drew {w : World} {g : Nat} {ss : List ByteArray} (h : StrsAt w g ss) : StrsAt w.drew g ss := h
theorem StrsAt.alloc {w : World} {g : Nat} {ss : List ByteArray} (h : StrsAt w g ss) (o : Obj) : StrsAt (w.alloc o) g ss := h.keep (bel_alloc w o)
theorem StrsAt.new (w : World) (ss : List ByteArray) (t : TypeId) : StrsAt (w.alloc (.cells (ss.map Value.string).toArray t)) w.heap.size ss := by
  refine ⟨by simp, fun j s hj => ?_⟩
  rw [Blk.cell (Blk.new w t _)]
  simp [hj]
theorem inB_hit {ss : List ByteArray} {s x : ByteArray} {k : Nat} (hk : ss[k]? = some x) (h : (x.toList == s.toList) = true) : inB (ss.map (·.toList)) s.toList = true := by
  unfold inB
  rw [List.contains_iff_mem]
  rw [← beq_iff_eq.1 h]
  exact List.mem_map.2 ⟨x, List.mem_of_getElem? hk, rfl⟩
theorem inB_miss {ss : List ByteArray} {s : ByteArray} (h : ∀ (j : Nat) x, ss[j]? = some x → (x.toList == s.toList) = false) : inB (ss.map (·.toList)) s.toList = false := by
  unfold inB
  rw [Bool.eq_false_iff]
  intro hc
  rw [List.contains_iff_mem, List.mem_map] at hc
  obtain ⟨x, hx, he⟩ := hc
  obtain ⟨j, hj⟩ := List.mem_iff_getElem?.1 hx
  have := h j x hj
  rw [he] at this
  simp at this
set_option maxHeartbeats 400000 in
theorem rin_any (g cap : Nat) (ss : List ByteArray) (s : ByteArray) (w : World) (hS : StrsAt w g ss) (hn : ss.length ≤ 1000000) : Calls Tryz.prog 91 #[.slice (some ⟨g, 0, none⟩) ss.length cap, .string s] w fun e w' => e = .returned (.bool (inB (ss.map (·.toList)) s.toList)) ∧ w = w' := by
  have HS := Lib.hid hS
  clear hS
  go_enter Tryz.func91, Tryz.ntmps91
  go_wp2_with fail
  go_loop [5] (fun i => ∃ k : Nat, k ≤ ss.length ∧ i = .int .i64 k ∧ Hid (∀ (j : Nat) x, ss[j]? = some x → j < k → (x.toList == s.toList) = false)) (fun i => ss.length - (intOf i).toNat)
  case atStart => exact ⟨0, by omega, rfl, fun j _ _ h => by omega⟩
  case round =>
    obtain ⟨k, hk, rfl, HJ⟩ := hrel
    by_cases hlt : k < ss.length
    · obtain ⟨x, hx⟩ : ∃ x, ss[k]? = some x := ⟨_, List.getElem?_eq_getElem hlt⟩
      have hc := HS.out.2 k x hx
      cases hq : (x.toList == s.toList)
      · have HX := Lib.hid hx
        have HQ := Lib.hid hq
        clear hx
        go_wp2_with fail
        go_round
        case rel => exact ⟨k + 1, by omega, by go_num, fun j y hj h => by
          rcases Nat.lt_or_ge j k with h' | h'
          · exact HJ.out j y hj h'
          · obtain rfl : j = k := by omega
            rw [HX.out] at hj
            obtain rfl := Option.some.inj hj
            exact HQ.out⟩
        case measure => simp [intOf]; omega
      · have HR := Lib.hid (inB_hit hx hq)
        clear hx
        go_wp2_with fail
        go_ret
        exact ⟨ret_bool HR.out.symm, rfl⟩
    · have HR := Lib.hid (inB_miss (ss := ss) (s := s) fun j x hj => HJ.out j x hj (by
        rcases Nat.lt_or_ge j ss.length with h | h
        · omega
        · rw [List.getElem?_eq_none h] at hj; cases hj))
      go_wp2_with fail
      go_ret
      exact ⟨ret_bool HR.out.symm, rfl⟩
def kwS : List ByteArray := [⟨#[102, 114, 97, 99]⟩, ⟨#[114, 111, 111, 116]⟩, ⟨#[109, 97, 116, 114, 105, 120]⟩, ⟨#[102, 101, 110, 99, 101]⟩]
theorem kwS_list : kwS.map (·.toList) = keywordsL := by
  simp only [kwS, List.map_cons, List.map_nil, ByteArray.toList_eq]; rfl
set_option maxHeartbeats 400000 in
theorem rkeywords_any (w : World) : Calls Tryz.prog 92 #[] w fun e w' => e = .returned (.slice (some ⟨w.heap.size, 0, none⟩) 4 4) ∧ StrsAt w' w.heap.size kwS ∧ Below w.heap.size w w' := by
  go_enter Tryz.func92, Tryz.ntmps92
  go_wp2_with fail
  go_ret
  exact ⟨rfl, StrsAt.new w kwS _, bel_alloc _ _⟩
def acS : List ByteArray := [⟨#[104, 97, 116]⟩, ⟨#[98, 97, 114]⟩, ⟨#[118, 101, 99]⟩, ⟨#[100, 111, 116]⟩, ⟨#[116, 105, 108, 100, 101]⟩, ⟨#[99, 104, 101, 99, 107]⟩]
theorem acS_list : acS.map (·.toList) = accentsL := by
  simp only [acS, List.map_cons, List.map_nil, ByteArray.toList_eq]; rfl
set_option maxHeartbeats 400000 in
theorem raccents_any (w : World) : Calls Tryz.prog 93 #[] w fun e w' => e = .returned (.slice (some ⟨w.heap.size, 0, none⟩) 6 6) ∧ StrsAt w' w.heap.size acS ∧ Below w.heap.size w w' := by
  go_enter Tryz.func93, Tryz.ntmps93
  go_wp2_with fail
  go_ret
  exact ⟨rfl, StrsAt.new w acS _, bel_alloc _ _⟩
theorem sym_one {s : ByteArray} (h : s.size = 1) : ∃ c : UInt8, s = ⟨#[c]⟩ := Lib.one_byte s h
theorem sym_of_one (c : UInt8) : symB (⟨#[c]⟩ : ByteArray).toList = (letB c || hasB signsL c) := by rw [ByteArray.toList_eq]; rfl
theorem sym_of_more {s : ByteArray} (h : s.size ≠ 1) : symB s.toList = (decide (2 ≤ s.size) && (decide (s.size ≤ 16) && (lettersB s.toList && (!inB keywordsL s.toList && !inB accentsL s.toList)))) := by
  rw [← size_toList s] at h ⊢
  unfold symB
  split
  · rename_i c hc; rw [hc] at h; exact absurd rfl h
  · rfl
set_option maxHeartbeats 400000 in
theorem rsym_one (c : UInt8) (w : World) : Calls Tryz.prog 71 #[.string ⟨#[c]⟩] w fun e w' => e = .returned (.bool (symB (⟨#[c]⟩ : ByteArray).toList)) ∧ Below w.heap.size w w' := by
  rw [sym_of_one]
  go_enter Tryz.func71, Tryz.ntmps71
  go_wp2_with fail
  refine (rchar_any c _).mono ?_
  rintro e w' ⟨rfl, rfl⟩
  generalize hb : (letB c || hasB signsL c) = b
  have HBQ := Lib.hid hb
  clear hb
  go_wp2_with fail
  go_ret
  exact ⟨ret_bool HBQ.out.symm, Below.refl _ _⟩
set_option maxHeartbeats 800000 in
theorem rsym_more (s : ByteArray) (w : World) (hs : s.size ≤ 9223372036854775807) (h1 : s.size ≠ 1) : Calls Tryz.prog 71 #[.string s] w fun e w' => e = .returned (.bool (symB s.toList)) ∧ Below w.heap.size w w' := by
  have HM := Lib.hid (sym_of_more h1)
  have h1' : ((s.size : Int) == 1) = false := by rw [beq_eq_false_iff_ne]; omega
  clear h1
  go_enter Tryz.func71, Tryz.ntmps71
  go_wp2_with fail
  go_loop [3] (fun i => ∃ k : Nat, k ≤ s.size ∧ i = .int .i64 k ∧ Hid (∀ (j : Nat) (hj : j < s.size), j < k → letB s[j] = true)) (fun i => s.size - (intOf i).toNat)
  case atStart => exact ⟨0, by omega, rfl, fun j _ h => by omega⟩
  case round =>
    obtain ⟨k, hk, rfl, HJ⟩ := hrel
    by_cases hlt : k < s.size
    · go_wp2_with fail
      refine (rletter_any s[k] _).mono ?_
      rintro e w' ⟨rfl, rfl⟩
      cases hl : letB s[k]
      · have HF := Lib.hid (not_all_get hlt hl)
        clear hl
        go_wp2_with fail
        go_ret
        exact ⟨ret_bool (by rw [HM.out]; unfold lettersB; rw [HF.out]; simp), Below.refl _ _⟩
      · have HL := Lib.hid hl
        clear hl
        go_wp2_with fail
        go_round
        case rel => exact ⟨k + 1, by omega, by go_num, fun j hj h => by
          rcases Nat.lt_or_ge j k with h' | h'
          · exact HJ.out j hj h'
          · obtain rfl : j = k := by omega
            exact HL.out⟩
        case measure => simp [intOf]; omega
    · have HF := Lib.hid (show lettersB s.toList = true from all_get (s := s) (p := letB) fun j hj => HJ.out j hj (by omega))
      by_cases h2 : 2 ≤ s.size
      · by_cases h16 : s.size ≤ 16
        · rw [decide_eq_true h2, decide_eq_true h16, HF.out] at HM
          go_wp2_with fail
          refine (rkeywords_any _).mono ?_
          rintro e w1 ⟨rfl, hS, hb⟩
          have HB := Lib.hid hb
          clear hb
          go_wp2_with fail
          refine (rin_any w.heap.size 4 kwS s _ hS (by decide)).mono ?_
          rintro e w' ⟨rfl, rfl⟩
          clear hS
          rw [kwS_list]
          cases hk : inB keywordsL s.toList
          · rw [hk] at HM
            clear hk
            go_wp2_with fail
            refine (raccents_any _).mono ?_
            rintro e w2 ⟨rfl, hS, hb⟩
            have HB2 := Lib.hid (HB.out.trans (hb.mono HB.out.size))
            clear hb
            go_wp2_with fail
            refine (rin_any w1.heap.size 6 acS s _ hS (by decide)).mono ?_
            rintro e w' ⟨rfl, rfl⟩
            clear hS
            rw [acS_list]
            cases ha : inB accentsL s.toList
            · rw [ha] at HM
              clear ha
              go_wp2_with fail
              go_ret
              exact ⟨ret_bool (by rw [HM.out]; rfl), HB2.out⟩
            · rw [ha] at HM
              clear ha
              go_wp2_with fail
              go_ret
              exact ⟨ret_bool (by rw [HM.out]; rfl), HB2.out⟩
          · rw [hk] at HM
            clear hk
            go_wp2_with fail
            go_ret
            exact ⟨ret_bool (by rw [HM.out]; rfl), HB.out⟩
        · rw [decide_eq_false h16, Bool.false_and, Bool.and_false] at HM
          go_wp2_with fail
          go_ret
          exact ⟨ret_bool (by rw [HM.out]), Below.refl _ _⟩
      · rw [decide_eq_false h2, Bool.false_and] at HM
        go_wp2_with fail
        go_ret
        exact ⟨ret_bool (by rw [HM.out]), Below.refl _ _⟩
theorem rsym_any (s : ByteArray) (w : World) (hs : s.size ≤ 9223372036854775807) : Calls Tryz.prog 71 #[.string s] w fun e w' => e = .returned (.bool (symB s.toList)) ∧ Below w.heap.size w w' := by
  by_cases h : s.size = 1
  · obtain ⟨c, rfl⟩ := sym_one h
    exact rsym_one c w
  · exact rsym_more s w hs h
theorem contains_one (c : UInt8) : decide (0 ≤ Lib.indexByte signsL c) = hasB signsL c := by
  have h : ∀ n : Nat, n < 256 → decide (0 ≤ Lib.indexByte signsL (UInt8.ofNat n)) = hasB signsL (UInt8.ofNat n) := by decide +kernel
  have := h c.toNat c.toNat_lt
  rwa [UInt8.ofNat_toNat] at this
theorem letters_one (c : UInt8) : lettersB (⟨#[c]⟩ : ByteArray).toList = letB c := by rw [ByteArray.toList_eq]; simp [lettersB]
set_option maxHeartbeats 400000 in
theorem sym_one_any (c : UInt8) (w : World) : Calls Tryz.prog 85 #[.string ⟨#[c]⟩] w fun e w' => e = .returned (.bool (symB (⟨#[c]⟩ : ByteArray).toList)) ∧ Below w.heap.size w w' := by
  rw [sym_of_one]
  have HC := Lib.hid (contains_one c)
  cases hl : letB c
  · have HL := Lib.hid hl
    clear hl
    go_enter Tryz.func85, Tryz.ntmps85
    go_wp2_with fail
    refine (letters_any _ _ (by show 1 ≤ 9223372036854775807; omega)).mono ?_
    rintro e w' ⟨rfl, rfl⟩
    rw [letters_one, HL.out]
    go_wp2_with fail
    refine (Tryz.strings_Contains_one _ _ _).mono ?_
    rintro e w' ⟨rfl, rfl⟩
    rw [show (⟨#[43, 45, 42, 47, 61, 60, 62, 44, 59, 58, 33, 124, 39, 63, 126, 64]⟩ : ByteArray).data.toList = signsL from rfl, HC.out]
    generalize hb : hasB signsL c = b
    have HBQ := Lib.hid hb
    clear hb
    go_wp2_with fail
    go_ret
    exact ⟨ret_bool (by rw [HBQ.out, Bool.false_or]), Below.refl _ _⟩
  · have HL := Lib.hid hl
    clear hl
    go_enter Tryz.func85, Tryz.ntmps85
    go_wp2_with fail
    refine (letters_any _ _ (by show 1 ≤ 9223372036854775807; omega)).mono ?_
    rintro e w' ⟨rfl, rfl⟩
    rw [letters_one, HL.out]
    go_wp2_with fail
    go_ret
    exact ⟨ret_bool (Bool.true_or _).symm, Below.refl _ _⟩
set_option maxHeartbeats 800000 in
theorem sym_more (s : ByteArray) (w : World) (hs : s.size ≤ 9223372036854775807) (h1 : s.size ≠ 1) : Calls Tryz.prog 85 #[.string s] w fun e w' => e = .returned (.bool (symB s.toList)) ∧ Below w.heap.size w w' := by
  have HM := Lib.hid (sym_of_more h1)
  have h1' : ((s.size : Int) == 1) = false := by rw [beq_eq_false_iff_ne]; omega
  clear h1
  by_cases h2 : 2 ≤ s.size
  · by_cases h16 : s.size ≤ 16
    · rw [decide_eq_true h2, decide_eq_true h16] at HM
      go_enter Tryz.func85, Tryz.ntmps85
      go_wp2_with fail
      refine (letters_any s _ hs).mono ?_
      rintro e w' ⟨rfl, rfl⟩
      cases hl : lettersB s.toList
      · rw [hl] at HM
        clear hl
        go_wp2_with fail
        go_ret
        exact ⟨ret_bool (by rw [HM.out]; rfl), Below.refl _ _⟩
      · rw [hl] at HM
        clear hl
        go_wp2_with fail
        refine (keyword_any s _).mono ?_
        rintro e w' ⟨rfl, rfl⟩
        cases hk : inB keywordsL s.toList
        · rw [hk] at HM
          clear hk
          go_wp2_with fail
          refine (accent_any s _).mono ?_
          rintro e w' ⟨rfl, rfl⟩
          cases ha : inB accentsL s.toList
          · rw [ha] at HM
            clear ha
            go_wp2_with fail
            go_ret
            exact ⟨ret_bool (by rw [HM.out]; rfl), Below.refl _ _⟩
          · rw [ha] at HM
            clear ha
            go_wp2_with fail
            go_ret
            exact ⟨ret_bool (by rw [HM.out]; rfl), Below.refl _ _⟩
        · rw [hk] at HM
          clear hk
          go_wp2_with fail
          go_ret
          exact ⟨ret_bool (by rw [HM.out]; rfl), Below.refl _ _⟩
    · rw [decide_eq_false h16, Bool.false_and, Bool.and_false] at HM
      go_enter Tryz.func85, Tryz.ntmps85
      go_wp2_with fail
      go_ret
      exact ⟨ret_bool (by rw [HM.out]), Below.refl _ _⟩
  · rw [decide_eq_false h2, Bool.false_and] at HM
    go_enter Tryz.func85, Tryz.ntmps85
    go_wp2_with fail
    go_ret
    exact ⟨ret_bool (by rw [HM.out]), Below.refl _ _⟩
theorem sym_any (s : ByteArray) (w : World) (hs : s.size ≤ 9223372036854775807) : Calls Tryz.prog 85 #[.string s] w fun e w' => e = .returned (.bool (symB s.toList)) ∧ Below w.heap.size w w' := by
  by_cases h : s.size = 1
  · obtain ⟨c, rfl⟩ := sym_one h
    exact sym_one_any c w
  · exact sym_more s w hs h
end Go.Proofs.YtpokelkneblafaaGreatDoor
