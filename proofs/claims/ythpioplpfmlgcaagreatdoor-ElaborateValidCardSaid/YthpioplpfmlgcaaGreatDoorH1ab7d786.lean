/- Symbol, of the program and of the reference: whether a string is a symbol · A rule that is valid alone, rules that clash: of the program and of the reference -/
import Derived.Test.YthpioplpfmlgcaaGreatDoorHd6791209
import Derived.Test.YthpioplpfmlgcaaGreatDoorShelf
import Derived.Lib.SplitLaws
namespace Go.Proofs.YthpioplpfmlgcaaGreatDoor
open Go.RowKit
def Blk (w : World) (g : Nat) (t : TypeId) (cs : Array Value) : Prop := w.heap[g]? = some (.cells cs t (0, 0))
section
variable {w w' : World} {g : Nat} {t : TypeId} {cs : Array Value}
theorem Blk.lt (h : Blk w g t cs) : g < w.heap.size := by
  rcases Nat.lt_or_ge g w.heap.size with hlt | hge
  · exact hlt
  · unfold Blk at h; rw [Array.getElem?_eq_none hge] at h; cases h
theorem Blk.cell (h : Blk w g t cs) (i : Nat) : w.cell? ⟨g, i, none⟩ = cs[i]? := cell_of_row w g i cs t (0, 0) h
theorem Blk.frozen (h : Blk w g t cs) (i : Nat) : w.frozen? ⟨g, i, none⟩ = false := by
  unfold Blk at h
  simp [World.frozen?, h]
theorem Blk.new (w : World) (t : TypeId) (cs : Array Value) : Blk (w.alloc (.cells cs t)) w.heap.size t cs := heap_alloc_new w _
theorem Blk.drew (h : Blk w g t cs) : Blk w.drew g t cs := h
theorem Blk.drewN (h : Blk w g t cs) (n : Nat) : Blk (w.drewN n) g t cs := h
theorem Blk.alloc (h : Blk w g t cs) (o : Obj) : Blk (w.alloc o) g t cs := (Below.heap_alloc w o g h.lt).trans h
theorem Blk.set_ (h : Blk w g t cs) (i : Nat) (u : Value) : Blk (w.setCell ⟨g, i, none⟩ u) g t (cs.setIfInBounds i u) := by
  unfold Blk at h ⊢
  simp [World.setCell, Array.getElem?_modify, h]
theorem Blk.far (h : Blk w g t cs) {p : Addr} (hp : g ≠ p.block) (u : Value) : Blk (w.setCell p u) g t cs := (Below.heap_setCell w p u g hp).trans h
theorem Blk.below {B : Nat} (h : Blk w g t cs) (hb : Below B w w') (hg : g < B) : Blk w' g t cs := (hb.block g hg).trans h
theorem Blk.grown {row : Option Nat} (h : Blk w g t cs) (hb : w.grownBy w' row) (hg : some g ≠ row) : Blk w' g t cs := (hb.block g h.lt hg).trans h
end
theorem keep {W w1 : World} (hb : Below W.heap.size W w1) {g : Nat} {t : TypeId} {cs : Array Value} (h : Blk W g t cs) : Blk w1 g t cs := h.below hb h.lt
theorem below_drew {B : Nat} {a w : World} (h : Below B a w) : Below B a w.drew := ⟨h.os, h.tape, h.output, h.size, h.block⟩
theorem below_drewN {B : Nat} {a w : World} (h : Below B a w) (n : Nat) : Below B a (w.drewN n) := ⟨h.os, h.tape, h.output, h.size, h.block⟩
theorem bel_alloc (w : World) (o : Obj) : Below w.heap.size w (w.alloc o) := (Below.refl _ _).alloc (Nat.le_refl _) o
/-- strings in a row -/
def StrsAt (w : World) (g : Nat) (ss : List ByteArray) : Prop := g < w.heap.size ∧ ∀ (j : Nat) (s : ByteArray), ss[j]? = some s → w.cell? ⟨g, j, none⟩ = some (.string s)
theorem StrsAt.keep {w w' : World} {g : Nat} {ss : List ByteArray} (h : StrsAt w g ss) (hb : Below w.heap.size w w') : StrsAt w' g ss :=
  ⟨Nat.lt_of_lt_of_le h.1 hb.size, fun j p hj => (hb.cell (p := ⟨g, j, none⟩) h.1).trans (h.2 j p hj)⟩
theorem StrsAt.drew {w : World} {g : Nat} {ss : List ByteArray} (h : StrsAt w g ss) : StrsAt w.drew g ss := h
theorem StrsAt.alloc {w : World} {g : Nat} {ss : List ByteArray} (h : StrsAt w g ss) (o : Obj) : StrsAt (w.alloc o) g ss := h.keep (bel_alloc w o)
theorem StrsAt.new (w : World) (ss : List ByteArray) (t : TypeId) : StrsAt (w.alloc (.cells (ss.map Value.string).toArray t)) w.heap.size ss := by
  refine ⟨by simp, fun j s hj => ?_⟩
  rw [Blk.cell (Blk.new w t _)]
  simp [hj]
theorem inB_hit {ss : List ByteArray} {s x : ByteArray} {k : Nat} (hk : ss[k]? = some x) (h : (x.toList == s.toList) = true) : inB (ss.map (·.toList)) s.toList = true := by
  unfold inB
  rw [List.contains_iff_mem]
  rw [← beq_iff_eq.1 h]
  exact List.mem_map.2 ⟨x, List.mem_of_getElem? hk, rfl⟩
theorem inB_miss {ss : List ByteArray} {s : ByteArray} (h : ∀ (j : Nat) x, ss[j]? = some x → (x.toList == s.toList) = false) : inB (ss.map (·.toList)) s.toList = false := by
  unfold inB
  rw [Bool.eq_false_iff]
  intro hc
  rw [List.contains_iff_mem, List.mem_map] at hc
  obtain ⟨x, hx, he⟩ := hc
  obtain ⟨j, hj⟩ := List.mem_iff_getElem?.1 hx
  have := h j x hj
  rw [he] at this
  simp at this
set_option maxHeartbeats 400000 in
theorem rin_any (g cap : Nat) (ss : List ByteArray) (s : ByteArray) (w : World) (hS : StrsAt w g ss) (hn : ss.length ≤ 1000000) : Calls Tryz.prog 117 #[.slice (some ⟨g, 0, none⟩) ss.length cap, .string s] w fun e w' => e = .returned (.bool (inB (ss.map (·.toList)) s.toList)) ∧ w = w' := by
  have HS := Lib.hid hS
  clear hS
  go_enter Tryz.func117, Tryz.ntmps117
  go_wp2_with fail
  go_loop [5] (fun i => ∃ k : Nat, k ≤ ss.length ∧ i = .int .i64 k ∧ Hid (∀ (j : Nat) x, ss[j]? = some x → j < k → (x.toList == s.toList) = false)) (fun i => ss.length - (intOf i).toNat)
  case atStart => exact ⟨0, by omega, rfl, fun j _ _ h => by omega⟩
  case round =>
    obtain ⟨k, hk, rfl, HJ⟩ := hrel
    by_cases hlt : k < ss.length
    · obtain ⟨x, hx⟩ : ∃ x, ss[k]? = some x := ⟨_, List.getElem?_eq_getElem hlt⟩
      have hc := HS.out.2 k x hx
      cases hq : (x.toList == s.toList)
      · have HX := Lib.hid hx
        have HQ := Lib.hid hq
        clear hx
        go_wp2_with fail
        go_round
        case rel => exact ⟨k + 1, by omega, by go_num, fun j y hj h => by
          rcases Nat.lt_or_ge j k with h' | h'
          · exact HJ.out j y hj h'
          · obtain rfl : j = k := by omega
            rw [HX.out] at hj
            obtain rfl := Option.some.inj hj
            exact HQ.out⟩
        case measure => simp [intOf]; omega
      · have HR := Lib.hid (inB_hit hx hq)
        clear hx
        go_wp2_with fail
        go_ret
        exact ⟨ret_bool HR.out.symm, rfl⟩
    · have HR := Lib.hid (inB_miss (ss := ss) (s := s) fun j x hj => HJ.out j x hj (by
        rcases Nat.lt_or_ge j ss.length with h | h
        · omega
        · rw [List.getElem?_eq_none h] at hj; cases hj))
      go_wp2_with fail
      go_ret
      exact ⟨ret_bool HR.out.symm, rfl⟩
def kwS : List ByteArray := [⟨#[102, 114, 97, 99]⟩, ⟨#[114, 111, 111, 116]⟩, ⟨#[109, 97, 116, 114, 105, 120]⟩, ⟨#[102, 101, 110, 99, 101]⟩]
theorem kwS_list : kwS.map (·.toList) = keywordsL := by
  simp only [kwS, List.map_cons, List.map_nil, ByteArray.toList_eq]; rfl
set_option maxHeartbeats 400000 in
theorem rkeywords_any (w : World) : Calls Tryz.prog 122 #[] w fun e w' => e = .returned (.slice (some ⟨w.heap.size, 0, none⟩) 4 4) ∧ StrsAt w' w.heap.size kwS ∧ Below w.heap.size w w' := by
  go_enter Tryz.func122, Tryz.ntmps122
  go_wp2_with fail
  go_ret
  exact ⟨rfl, StrsAt.new w kwS _, bel_alloc _ _⟩
def acS : List ByteArray := [⟨#[104, 97, 116]⟩, ⟨#[98, 97, 114]⟩, ⟨#[118, 101, 99]⟩, ⟨#[100, 111, 116]⟩, ⟨#[116, 105, 108, 100, 101]⟩, ⟨#[99, 104, 101, 99, 107]⟩]
theorem acS_list : acS.map (·.toList) = accentsL := by
  simp only [acS, List.map_cons, List.map_nil, ByteArray.toList_eq]; rfl
set_option maxHeartbeats 400000 in
theorem raccents_any (w : World) : Calls Tryz.prog 118 #[] w fun e w' => e = .returned (.slice (some ⟨w.heap.size, 0, none⟩) 6 6) ∧ StrsAt w' w.heap.size acS ∧ Below w.heap.size w w' := by
  go_enter Tryz.func118, Tryz.ntmps118
  go_wp2_with fail
  go_ret
  exact ⟨rfl, StrsAt.new w acS _, bel_alloc _ _⟩
theorem sym_one {s : ByteArray} (h : s.size = 1) : ∃ c : UInt8, s = ⟨#[c]⟩ := Lib.one_byte s h
theorem sym_of_one (c : UInt8) : symB (⟨#[c]⟩ : ByteArray).toList = (letB c || hasB signsL c) := by rw [ByteArray.toList_eq]; rfl
theorem sym_of_more {s : ByteArray} (h : s.size ≠ 1) : symB s.toList = (decide (2 ≤ s.size) && (decide (s.size ≤ 16) && (lettersB s.toList && (!inB keywordsL s.toList && !inB accentsL s.toList)))) := by
  rw [← size_toList s] at h ⊢
  unfold symB
  split
  · rename_i c hc; rw [hc] at h; exact absurd rfl h
  · rfl
set_option maxHeartbeats 400000 in
theorem rsym_one (c : UInt8) (w : World) : Calls Tryz.prog 78 #[.string ⟨#[c]⟩] w fun e w' => e = .returned (.bool (symB (⟨#[c]⟩ : ByteArray).toList)) ∧ Below w.heap.size w w' := by
  rw [sym_of_one]
  go_enter Tryz.func78, Tryz.ntmps78
  go_wp2_with fail
  refine (rchar_any c _).mono ?_
  rintro e w' ⟨rfl, rfl⟩
  generalize hb : (letB c || hasB signsL c) = b
  have HBQ := Lib.hid hb
  clear hb
  go_wp2_with fail
  go_ret
  exact ⟨ret_bool HBQ.out.symm, Below.refl _ _⟩
set_option maxHeartbeats 800000 in
theorem rsym_more (s : ByteArray) (w : World) (hs : s.size ≤ 9223372036854775807) (h1 : s.size ≠ 1) : Calls Tryz.prog 78 #[.string s] w fun e w' => e = .returned (.bool (symB s.toList)) ∧ Below w.heap.size w w' := by
  have HM := Lib.hid (sym_of_more h1)
  have h1' : ((s.size : Int) == 1) = false := by rw [beq_eq_false_iff_ne]; omega
  clear h1
  go_enter Tryz.func78, Tryz.ntmps78
  go_wp2_with fail
  go_loop [3] (fun i => ∃ k : Nat, k ≤ s.size ∧ i = .int .i64 k ∧ Hid (∀ (j : Nat) (hj : j < s.size), j < k → letB s[j] = true)) (fun i => s.size - (intOf i).toNat)
  case atStart => exact ⟨0, by omega, rfl, fun j _ h => by omega⟩
  case round =>
    obtain ⟨k, hk, rfl, HJ⟩ := hrel
    by_cases hlt : k < s.size
    · go_wp2_with fail
      refine (rletter_any s[k] _).mono ?_
      rintro e w' ⟨rfl, rfl⟩
      cases hl : letB s[k]
      · have HF := Lib.hid (not_all_get hlt hl)
        clear hl
        go_wp2_with fail
        go_ret
        exact ⟨ret_bool (by rw [HM.out]; unfold lettersB; rw [HF.out]; simp), Below.refl _ _⟩
      · have HL := Lib.hid hl
        clear hl
        go_wp2_with fail
        go_round
        case rel => exact ⟨k + 1, by omega, by go_num, fun j hj h => by
          rcases Nat.lt_or_ge j k with h' | h'
          · exact HJ.out j hj h'
          · obtain rfl : j = k := by omega
            exact HL.out⟩
        case measure => simp [intOf]; omega
    · have HF := Lib.hid (show lettersB s.toList = true from all_get (s := s) (p := letB) fun j hj => HJ.out j hj (by omega))
      by_cases h2 : 2 ≤ s.size
      · by_cases h16 : s.size ≤ 16
        · rw [decide_eq_true h2, decide_eq_true h16, HF.out] at HM
          go_wp2_with fail
          refine (rkeywords_any _).mono ?_
          rintro e w1 ⟨rfl, hS, hb⟩
          have HB := Lib.hid hb
          clear hb
          go_wp2_with fail
          refine (rin_any w.heap.size 4 kwS s _ hS (by decide)).mono ?_
          rintro e w' ⟨rfl, rfl⟩
          clear hS
          rw [kwS_list]
          cases hk : inB keywordsL s.toList
          · rw [hk] at HM
            clear hk
            go_wp2_with fail
            refine (raccents_any _).mono ?_
            rintro e w2 ⟨rfl, hS, hb⟩
            have HB2 := Lib.hid (HB.out.trans (hb.mono HB.out.size))
            clear hb
            go_wp2_with fail
            refine (rin_any w1.heap.size 6 acS s _ hS (by decide)).mono ?_
            rintro e w' ⟨rfl, rfl⟩
            clear hS
            rw [acS_list]
            cases ha : inB accentsL s.toList
            · rw [ha] at HM
              clear ha
              go_wp2_with fail
              go_ret
              exact ⟨ret_bool (by rw [HM.out]; rfl), HB2.out⟩
            · rw [ha] at HM
              clear ha
              go_wp2_with fail
              go_ret
              exact ⟨ret_bool (by rw [HM.out]; rfl), HB2.out⟩
          · rw [hk] at HM
            clear hk
            go_wp2_with fail
            go_ret
            exact ⟨ret_bool (by rw [HM.out]; rfl), HB.out⟩
        · rw [decide_eq_false h16, Bool.false_and, Bool.and_false] at HM
          go_wp2_with fail
          go_ret
          exact ⟨ret_bool (by rw [HM.out]), Below.refl _ _⟩
      · rw [decide_eq_false h2, Bool.false_and] at HM
        go_wp2_with fail
        go_ret
        exact ⟨ret_bool (by rw [HM.out]), Below.refl _ _⟩
theorem rsym_any (s : ByteArray) (w : World) (hs : s.size ≤ 9223372036854775807) : Calls Tryz.prog 78 #[.string s] w fun e w' => e = .returned (.bool (symB s.toList)) ∧ Below w.heap.size w w' := by
  by_cases h : s.size = 1
  · obtain ⟨c, rfl⟩ := sym_one h
    exact rsym_one c w
  · exact rsym_more s w hs h
theorem contains_one (c : UInt8) : decide (0 ≤ Lib.indexByte signsL c) = hasB signsL c := by
  have h : ∀ n : Nat, n < 256 → decide (0 ≤ Lib.indexByte signsL (UInt8.ofNat n)) = hasB signsL (UInt8.ofNat n) := by decide +kernel
  have := h c.toNat c.toNat_lt
  rwa [UInt8.ofNat_toNat] at this
theorem letters_one (c : UInt8) : lettersB (⟨#[c]⟩ : ByteArray).toList = letB c := by rw [ByteArray.toList_eq]; simp [lettersB]
set_option maxHeartbeats 400000 in
theorem sym_one_any (c : UInt8) (w : World) : Calls Tryz.prog 93 #[.string ⟨#[c]⟩] w fun e w' => e = .returned (.bool (symB (⟨#[c]⟩ : ByteArray).toList)) ∧ Below w.heap.size w w' := by
  rw [sym_of_one]
  have HC := Lib.hid (contains_one c)
  cases hl : letB c
  · have HL := Lib.hid hl
    clear hl
    go_enter Tryz.func93, Tryz.ntmps93
    go_wp2_with fail
    refine (letters_any _ _ (by show 1 ≤ 9223372036854775807; omega)).mono ?_
    rintro e w' ⟨rfl, rfl⟩
    rw [letters_one, HL.out]
    go_wp2_with fail
    refine (Tryz.strings_Contains_one _ _ _).mono ?_
    rintro e w' ⟨rfl, rfl⟩
    rw [show (⟨#[43, 45, 42, 47, 61, 60, 62, 44, 59, 58, 33, 124, 39, 63, 126, 64]⟩ : ByteArray).data.toList = signsL from rfl, HC.out]
    generalize hb : hasB signsL c = b
    have HBQ := Lib.hid hb
    clear hb
    go_wp2_with fail
    go_ret
    exact ⟨ret_bool (by rw [HBQ.out, Bool.false_or]), Below.refl _ _⟩
  · have HL := Lib.hid hl
    clear hl
    go_enter Tryz.func93, Tryz.ntmps93
    go_wp2_with fail
    refine (letters_any _ _ (by show 1 ≤ 9223372036854775807; omega)).mono ?_
    rintro e w' ⟨rfl, rfl⟩
    rw [letters_one, HL.out]
    go_wp2_with fail
    go_ret
    exact ⟨ret_bool (Bool.true_or _).symm, Below.refl _ _⟩
set_option maxHeartbeats 800000 in
theorem sym_more (s : ByteArray) (w : World) (hs : s.size ≤ 9223372036854775807) (h1 : s.size ≠ 1) : Calls Tryz.prog 93 #[.string s] w fun e w' => e = .returned (.bool (symB s.toList)) ∧ Below w.heap.size w w' := by
  have HM := Lib.hid (sym_of_more h1)
  have h1' : ((s.size : Int) == 1) = false := by rw [beq_eq_false_iff_ne]; omega
  clear h1
  by_cases h2 : 2 ≤ s.size
  · by_cases h16 : s.size ≤ 16
    · rw [decide_eq_true h2, decide_eq_true h16] at HM
      go_enter Tryz.func93, Tryz.ntmps93
      go_wp2_with fail
      refine (letters_any s _ hs).mono ?_
      rintro e w' ⟨rfl, rfl⟩
      cases hl : lettersB s.toList
      · rw [hl] at HM
        clear hl
        go_wp2_with fail
        go_ret
        exact ⟨ret_bool (by rw [HM.out]; rfl), Below.refl _ _⟩
      · rw [hl] at HM
        clear hl
        go_wp2_with fail
        refine (keyword_any s _).mono ?_
        rintro e w' ⟨rfl, rfl⟩
        cases hk : inB keywordsL s.toList
        · rw [hk] at HM
          clear hk
          go_wp2_with fail
          refine (accent_any s _).mono ?_
          rintro e w' ⟨rfl, rfl⟩
          cases ha : inB accentsL s.toList
          · rw [ha] at HM
            clear ha
            go_wp2_with fail
            go_ret
            exact ⟨ret_bool (by rw [HM.out]; rfl), Below.refl _ _⟩
          · rw [ha] at HM
            clear ha
            go_wp2_with fail
            go_ret
            exact ⟨ret_bool (by rw [HM.out]; rfl), Below.refl _ _⟩
        · rw [hk] at HM
          clear hk
          go_wp2_with fail
          go_ret
          exact ⟨ret_bool (by rw [HM.out]; rfl), Below.refl _ _⟩
    · rw [decide_eq_false h16, Bool.false_and, Bool.and_false] at HM
      go_enter Tryz.func93, Tryz.ntmps93
      go_wp2_with fail
      go_ret
      exact ⟨ret_bool (by rw [HM.out]), Below.refl _ _⟩
  · rw [decide_eq_false h2, Bool.false_and] at HM
    go_enter Tryz.func93, Tryz.ntmps93
    go_wp2_with fail
    go_ret
    exact ⟨ret_bool (by rw [HM.out]), Below.refl _ _⟩
theorem sym_any (s : ByteArray) (w : World) (hs : s.size ≤ 9223372036854775807) : Calls Tryz.prog 93 #[.string s] w fun e w' => e = .returned (.bool (symB s.toList)) ∧ Below w.heap.size w w' := by
  by_cases h : s.size = 1
  · obtain ⟨c, rfl⟩ := sym_one h
    exact sym_one_any c w
  · exact sym_more s w hs h
end Go.Proofs.YthpioplpfmlgcaaGreatDoor
namespace Go.Proofs.YthpioplpfmlgcaaGreatDoor
open Go.RowKit
abbrev Rul.c (r : Rul) : Array Value := #[.int .i64 r.kind, .string r.sym, .string r.nam, .int .i64 r.prec, .int .i64 r.left, .int .i64 r.right]
abbrev Rul.v (r : Rul) : Value := .agg r.c
def Rul.fits (r : Rul) : Prop := r.sym.size ≤ 9223372036854775807 ∧ r.nam.size ≤ 9223372036854775807
/-- what the kind asks -/
def kindB (r : Rul) : Bool := if r.kind = 1 then symB r.sym.toList else if r.kind = 2 then symB r.sym.toList && decide (r.left = 0) else if r.kind = 3 then symB r.sym.toList && decide (r.right = 0) else decide (r.kind = 4) && r.sym.toList.isEmpty
theorem own_def (r : Rul) : ownB r = (namedB r.nam.toList && (inR r.prec 1 100 && (inR r.left 0 101 && (inR r.right 0 101 && kindB r)))) := rfl
set_option maxRecDepth 100000 in
set_option maxHeartbeats 800000 in
theorem own_any (r : Rul) (w : World) (hf : r.fits) : Calls Tryz.prog 58 #[r.v] w fun e w' => e = .returned (.bool (ownB r)) ∧ Below w.heap.size w w' := by
  have HO := Lib.hid (own_def r)
  have HF := Lib.hid hf
  clear hf
  go_enter Tryz.func58, Tryz.ntmps58
  go_wp2_with fail
  refine (named_any r.nam _ HF.out.2).mono ?_
  rintro e w' ⟨rfl, rfl⟩
  cases h1 : namedB r.nam.toList
  · rw [h1, Bool.false_and] at HO
    clear h1
    go_wp2_with fail
    go_ret
    exact ⟨ret_bool HO.out.symm, bel_alloc _ _⟩
  · rw [h1] at HO
    clear h1
    go_wp2_with fail
    refine (within_any r.prec 1 100 _).mono ?_
    rintro e w' ⟨rfl, rfl⟩
    cases h2 : inR r.prec 1 100
    · rw [h2, Bool.false_and, Bool.and_false] at HO
      clear h2
      go_wp2_with fail
      go_ret
      exact ⟨ret_bool HO.out.symm, bel_alloc _ _⟩
    · rw [h2] at HO
      clear h2
      go_wp2_with fail
      refine (within_any r.left 0 101 _).mono ?_
      rintro e w' ⟨rfl, rfl⟩
      cases h3 : inR r.left 0 101
      · rw [h3, Bool.false_and, Bool.and_false, Bool.and_false] at HO
        clear h3
        go_wp2_with fail
        go_ret
        exact ⟨ret_bool HO.out.symm, bel_alloc _ _⟩
      · rw [h3] at HO
        clear h3
        go_wp2_with fail
        refine (within_any r.right 0 101 _).mono ?_
        rintro e w' ⟨rfl, rfl⟩
        cases h4 : inR r.right 0 101
        · rw [h4, Bool.false_and, Bool.and_false, Bool.and_false, Bool.and_false] at HO
          clear h4
          go_wp2_with fail
          go_ret
          exact ⟨ret_bool HO.out.symm, bel_alloc _ _⟩
        · rw [h4] at HO
          clear h4
          rw [Bool.true_and, Bool.true_and, Bool.true_and, Bool.true_and] at HO
          unfold kindB at HO
          by_cases k1 : r.kind = 1
          · rw [if_pos k1] at HO
            have q1 : (r.kind == 1) = true := by rw [k1]; rfl
            clear k1
            go_wp2_with fail
            refine (sym_any r.sym _ HF.out.1).mono ?_
            rintro e w1 ⟨rfl, hb⟩
            have K0 := Lib.hid (keep hb (Blk.new w 50 r.c))
            have H0 := Lib.hid ((bel_alloc w _).trans (hb.mono (by simp)))
            have c0 := fun i => K0.out.cell i
            have l0 := K0.out.lt
            clear hb
            generalize symB r.sym.toList = b at HO ⊢
            go_wp2_with fail
            go_ret
            exact ⟨ret_bool HO.out.symm, H0.out⟩
          · rw [if_neg k1] at HO
            have q1 : (r.kind == 1) = false := by rw [beq_eq_false_iff_ne]; exact k1
            by_cases k2 : r.kind = 2
            · rw [if_pos k2] at HO
              have q2 : (r.kind == 2) = true := by rw [k2]; rfl
              clear k1 k2
              go_wp2_with fail
              refine (sym_any r.sym _ HF.out.1).mono ?_
              rintro e w1 ⟨rfl, hb⟩
              have K0 := Lib.hid (keep hb (Blk.new w 50 r.c))
              have H0 := Lib.hid ((bel_alloc w _).trans (hb.mono (by simp)))
              have c0 := fun i => K0.out.cell i
              have l0 := K0.out.lt
              clear hb
              cases hy : symB r.sym.toList
              · rw [hy, Bool.false_and] at HO
                clear hy
                go_wp2_with fail
                go_ret
                exact ⟨ret_bool HO.out.symm, H0.out⟩
              · rw [hy, Bool.true_and] at HO
                clear hy
                by_cases hz : r.left = 0
                · rw [decide_eq_true hz] at HO
                  have qz : (r.left == 0) = true := by rw [hz]; rfl
                  clear hz
                  go_wp2_with fail
                  go_ret
                  exact ⟨ret_bool HO.out.symm, H0.out⟩
                · rw [decide_eq_false hz] at HO
                  have qz : (r.left == 0) = false := by rw [beq_eq_false_iff_ne]; exact hz
                  clear hz
                  go_wp2_with fail
                  go_ret
                  exact ⟨ret_bool HO.out.symm, H0.out⟩
            · rw [if_neg k2] at HO
              have q2 : (r.kind == 2) = false := by rw [beq_eq_false_iff_ne]; exact k2
              by_cases k3 : r.kind = 3
              · rw [if_pos k3] at HO
                have q3 : (r.kind == 3) = true := by rw [k3]; rfl
                clear k1 k2 k3
                go_wp2_with fail
                refine (sym_any r.sym _ HF.out.1).mono ?_
                rintro e w1 ⟨rfl, hb⟩
                have K0 := Lib.hid (keep hb (Blk.new w 50 r.c))
                have H0 := Lib.hid ((bel_alloc w _).trans (hb.mono (by simp)))
                have c0 := fun i => K0.out.cell i
                have l0 := K0.out.lt
                clear hb
                cases hy : symB r.sym.toList
                · rw [hy, Bool.false_and] at HO
                  clear hy
                  go_wp2_with fail
                  go_ret
                  exact ⟨ret_bool HO.out.symm, H0.out⟩
                · rw [hy, Bool.true_and] at HO
                  clear hy
                  by_cases hz : r.right = 0
                  · rw [decide_eq_true hz] at HO
                    have qz : (r.right == 0) = true := by rw [hz]; rfl
                    clear hz
                    go_wp2_with fail
                    go_ret
                    exact ⟨ret_bool HO.out.symm, H0.out⟩
                  · rw [decide_eq_false hz] at HO
                    have qz : (r.right == 0) = false := by rw [beq_eq_false_iff_ne]; exact hz
                    clear hz
                    go_wp2_with fail
                    go_ret
                    exact ⟨ret_bool HO.out.symm, H0.out⟩
              · rw [if_neg k3] at HO
                have q3 : (r.kind == 3) = false := by rw [beq_eq_false_iff_ne]; exact k3
                by_cases k4 : r.kind = 4
                · rw [decide_eq_true k4, Bool.true_and] at HO
                  have q4 : (r.kind == 4) = true := by rw [k4]; rfl
                  clear k1 k2 k3 k4
                  go_wp2_with fail
                  go_ret
                  exact ⟨ret_bool (by first | exact HO.out.symm | (rw [HO.out])), bel_alloc _ _⟩
                · rw [decide_eq_false k4, Bool.false_and] at HO
                  have q4 : (r.kind == 4) = false := by rw [beq_eq_false_iff_ne]; exact k4
                  clear k1 k2 k3 k4
                  go_wp2_with fail
                  go_ret
                  exact ⟨ret_bool HO.out.symm, bel_alloc _ _⟩
set_option maxRecDepth 100000 in
set_option maxHeartbeats 800000 in
theorem rown_any (r : Rul) (w : World) (hf : r.fits) : Calls Tryz.prog 47 #[r.v] w fun e w' => e = .returned (.bool (ownB r)) ∧ Below w.heap.size w w' := by
  have HO := Lib.hid (own_def r)
  have HF := Lib.hid hf
  clear hf
  go_enter Tryz.func47, Tryz.ntmps47
  go_wp2_with fail
  refine (rnamed_any r.nam _ HF.out.2).mono ?_
  rintro e w' ⟨rfl, rfl⟩
  cases h1 : namedB r.nam.toList
  · rw [h1, Bool.false_and] at HO
    clear h1
    go_wp2_with fail
    go_ret
    exact ⟨ret_bool HO.out.symm, bel_alloc _ _⟩
  · rw [h1] at HO
    clear h1
    go_wp2_with fail
    refine (rwithin_any r.prec 1 100 _).mono ?_
    rintro e w' ⟨rfl, rfl⟩
    cases h2 : inR r.prec 1 100
    · rw [h2, Bool.false_and, Bool.and_false] at HO
      clear h2
      go_wp2_with fail
      go_ret
      exact ⟨ret_bool HO.out.symm, bel_alloc _ _⟩
    · rw [h2] at HO
      clear h2
      go_wp2_with fail
      refine (rwithin_any r.left 0 101 _).mono ?_
      rintro e w' ⟨rfl, rfl⟩
      cases h3 : inR r.left 0 101
      · rw [h3, Bool.false_and, Bool.and_false, Bool.and_false] at HO
        clear h3
        go_wp2_with fail
        go_ret
        exact ⟨ret_bool HO.out.symm, bel_alloc _ _⟩
      · rw [h3] at HO
        clear h3
        go_wp2_with fail
        refine (rwithin_any r.right 0 101 _).mono ?_
        rintro e w' ⟨rfl, rfl⟩
        cases h4 : inR r.right 0 101
        · rw [h4, Bool.false_and, Bool.and_false, Bool.and_false, Bool.and_false] at HO
          clear h4
          go_wp2_with fail
          go_ret
          exact ⟨ret_bool HO.out.symm, bel_alloc _ _⟩
        · rw [h4] at HO
          clear h4
          rw [Bool.true_and, Bool.true_and, Bool.true_and, Bool.true_and] at HO
          unfold kindB at HO
          by_cases k1 : r.kind = 1
          · rw [if_pos k1] at HO
            have q1 : (r.kind == 1) = true := by rw [k1]; rfl
            clear k1
            go_wp2_with fail
            refine (rsym_any r.sym _ HF.out.1).mono ?_
            rintro e w1 ⟨rfl, hb⟩
            have K0 := Lib.hid (keep hb (Blk.new w 50 r.c))
            have H0 := Lib.hid ((bel_alloc w _).trans (hb.mono (by simp)))
            have c0 := fun i => K0.out.cell i
            have l0 := K0.out.lt
            clear hb
            generalize symB r.sym.toList = b at HO ⊢
            go_wp2_with fail
            go_ret
            exact ⟨ret_bool HO.out.symm, H0.out⟩
          · rw [if_neg k1] at HO
            have q1 : (r.kind == 1) = false := by rw [beq_eq_false_iff_ne]; exact k1
            by_cases k2 : r.kind = 2
            · rw [if_pos k2] at HO
              have q2 : (r.kind == 2) = true := by rw [k2]; rfl
              clear k1 k2
              go_wp2_with fail
              refine (rsym_any r.sym _ HF.out.1).mono ?_
              rintro e w1 ⟨rfl, hb⟩
              have K0 := Lib.hid (keep hb (Blk.new w 50 r.c))
              have H0 := Lib.hid ((bel_alloc w _).trans (hb.mono (by simp)))
              have c0 := fun i => K0.out.cell i
              have l0 := K0.out.lt
              clear hb
              cases hy : symB r.sym.toList
              · rw [hy, Bool.false_and] at HO
                clear hy
                go_wp2_with fail
                go_ret
                exact ⟨ret_bool HO.out.symm, H0.out⟩
              · rw [hy, Bool.true_and] at HO
                clear hy
                by_cases hz : r.left = 0
                · rw [decide_eq_true hz] at HO
                  have qz : (r.left == 0) = true := by rw [hz]; rfl
                  clear hz
                  go_wp2_with fail
                  go_ret
                  exact ⟨ret_bool HO.out.symm, H0.out⟩
                · rw [decide_eq_false hz] at HO
                  have qz : (r.left == 0) = false := by rw [beq_eq_false_iff_ne]; exact hz
                  clear hz
                  go_wp2_with fail
                  go_ret
                  exact ⟨ret_bool HO.out.symm, H0.out⟩
            · rw [if_neg k2] at HO
              have q2 : (r.kind == 2) = false := by rw [beq_eq_false_iff_ne]; exact k2
              by_cases k3 : r.kind = 3
              · rw [if_pos k3] at HO
                have q3 : (r.kind == 3) = true := by rw [k3]; rfl
                clear k1 k2 k3
                go_wp2_with fail
                refine (rsym_any r.sym _ HF.out.1).mono ?_
                rintro e w1 ⟨rfl, hb⟩
                have K0 := Lib.hid (keep hb (Blk.new w 50 r.c))
                have H0 := Lib.hid ((bel_alloc w _).trans (hb.mono (by simp)))
                have c0 := fun i => K0.out.cell i
                have l0 := K0.out.lt
                clear hb
                cases hy : symB r.sym.toList
                · rw [hy, Bool.false_and] at HO
                  clear hy
                  go_wp2_with fail
                  go_ret
                  exact ⟨ret_bool HO.out.symm, H0.out⟩
                · rw [hy, Bool.true_and] at HO
                  clear hy
                  by_cases hz : r.right = 0
                  · rw [decide_eq_true hz] at HO
                    have qz : (r.right == 0) = true := by rw [hz]; rfl
                    clear hz
                    go_wp2_with fail
                    go_ret
                    exact ⟨ret_bool HO.out.symm, H0.out⟩
                  · rw [decide_eq_false hz] at HO
                    have qz : (r.right == 0) = false := by rw [beq_eq_false_iff_ne]; exact hz
                    clear hz
                    go_wp2_with fail
                    go_ret
                    exact ⟨ret_bool HO.out.symm, H0.out⟩
              · rw [if_neg k3] at HO
                have q3 : (r.kind == 3) = false := by rw [beq_eq_false_iff_ne]; exact k3
                by_cases k4 : r.kind = 4
                · rw [decide_eq_true k4, Bool.true_and] at HO
                  have q4 : (r.kind == 4) = true := by rw [k4]; rfl
                  clear k1 k2 k3 k4
                  go_wp2_with fail
                  go_ret
                  exact ⟨ret_bool (by first | exact HO.out.symm | (rw [HO.out])), bel_alloc _ _⟩
                · rw [decide_eq_false k4, Bool.false_and] at HO
                  have q4 : (r.kind == 4) = false := by rw [beq_eq_false_iff_ne]; exact k4
                  clear k1 k2 k3 k4
                  go_wp2_with fail
                  go_ret
                  exact ⟨ret_bool HO.out.symm, bel_alloc _ _⟩
set_option maxHeartbeats 800000 in
theorem rclash_any (o r : Rul) (w : World) : Calls Tryz.prog 48 #[o.v, r.v] w fun e w' => e = .returned (.bool (clashB o r)) ∧ Below w.heap.size w w' := by
  cases h1 : (o.kind == r.kind)
  · have HC := Lib.hid (show clashB o r = false by unfold clashB; rw [decide_eq_false (by rw [beq_eq_false_iff_ne] at h1; exact h1)]; rfl)
    go_enter Tryz.func48, Tryz.ntmps48
    go_wp2_with fail
    go_ret
    exact ⟨ret_bool HC.out.symm, (bel_alloc w _).trans ((bel_alloc _ _).mono (by simp))⟩
  · have hk : decide (o.kind = r.kind) = true := decide_eq_true (beq_iff_eq.1 h1)
    cases h2 : (o.sym.toList == r.sym.toList)
    · have HC := Lib.hid (show clashB o r = (o.nam.toList == r.nam.toList) by unfold clashB; rw [hk, h2]; rfl)
      clear hk
      go_enter Tryz.func48, Tryz.ntmps48
      go_wp2_with fail
      go_ret
      exact ⟨ret_bool HC.out.symm, (bel_alloc w _).trans ((bel_alloc _ _).mono (by simp))⟩
    · have HC := Lib.hid (show clashB o r = true by unfold clashB; rw [hk, h2]; rfl)
      clear hk
      go_enter Tryz.func48, Tryz.ntmps48
      go_wp2_with fail
      go_ret
      exact ⟨ret_bool HC.out.symm, (bel_alloc w _).trans ((bel_alloc _ _).mono (by simp))⟩
set_option maxHeartbeats 800000 in
theorem rep1_any (o r : Rul) (g : Nat) (w : World) (hK : Blk w g 50 r.c) : Calls Tryz.prog 95 #[o.v, .pointer (some ⟨g, 0, none⟩)] w fun e w' => e = .returned (.bool (clashB o r)) ∧ Below w.heap.size w w' := by
  cases h1 : (o.kind == r.kind)
  · have HC := Lib.hid (show clashB o r = false by unfold clashB; rw [decide_eq_false (by rw [beq_eq_false_iff_ne] at h1; exact h1)]; rfl)
    have c0 := fun i => hK.cell i
    have l0 := hK.lt
    go_enter Tryz.func95, Tryz.ntmps95
    go_wp2_with fail
    go_ret
    exact ⟨ret_bool HC.out.symm, bel_alloc _ _⟩
  · have hk : decide (o.kind = r.kind) = true := decide_eq_true (beq_iff_eq.1 h1)
    cases h2 : (o.sym.toList == r.sym.toList)
    · have HC := Lib.hid (show clashB o r = (o.nam.toList == r.nam.toList) by unfold clashB; rw [hk, h2]; rfl)
      clear hk
      have c0 := fun i => hK.cell i
      have l0 := hK.lt
      go_enter Tryz.func95, Tryz.ntmps95
      go_wp2_with fail
      go_ret
      exact ⟨ret_bool HC.out.symm, bel_alloc _ _⟩
    · have HC := Lib.hid (show clashB o r = true by unfold clashB; rw [hk, h2]; rfl)
      clear hk
      have c0 := fun i => hK.cell i
      have l0 := hK.lt
      go_enter Tryz.func95, Tryz.ntmps95
      go_wp2_with fail
      go_ret
      exact ⟨ret_bool HC.out.symm, bel_alloc _ _⟩
end Go.Proofs.YthpioplpfmlgcaaGreatDoor
