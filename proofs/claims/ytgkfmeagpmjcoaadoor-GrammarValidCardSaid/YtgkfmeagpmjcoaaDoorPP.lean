/- Lines and texts of rules, plain: what both Parse functions read out of a string, and that a text is read back. -/
import Derived.Test.YtgkfmeagpmjcoaaDoorT0
import Derived.Test.YtgkfmeagpmjcoaaDoorSP0
namespace Go.Proofs.YtgkfmeagpmjcoaaDoor
open Go.RowKit
def dg3 (u : Nat) : List UInt8 := if u < 10 then [UInt8.ofNat (48 + u)] else if u < 100 then [UInt8.ofNat (48 + u / 10), UInt8.ofNat (48 + u % 10)] else [UInt8.ofNat (48 + u / 100), UInt8.ofNat (48 + u / 10 % 10), UInt8.ofNat (48 + u % 10)]
theorem dec_dg3 {u : Nat} (h : u < 1000) : Lib.decDigits u = dg3 u := by
  unfold dg3
  split
  · rw [Lib.decDigits, dif_pos ‹_›]
  · rw [Lib.decDigits, dif_neg ‹_›]
    split
    · rw [Lib.decDigits, dif_pos (by omega)]; rfl
    · rw [Lib.decDigits, dif_neg (by omega), Lib.decDigits, dif_pos (by omega), Nat.div_div_eq_div_mul]; rfl
theorem it_dg3 {n : Int} (h0 : 0 ≤ n) (h : n < 1000) : Lib.itoa n = dg3 n.toNat := by
  unfold Lib.itoa
  rw [if_neg (by omega), dec_dg3 (by omega)]
theorem itB_data {n : Int} (h0 : 0 ≤ n) (h : n ≤ 101) : (itB n).data.toList = dg3 n.toNat := by
  unfold itB
  rw [← it_dg3 h0 (by omega)]
def digB (c : UInt8) : Bool := decide (48 ≤ c.toNat) && decide (c.toNat ≤ 57)
def valB (l : List UInt8) : Int := l.foldl (fun n c => 10 * n + ((c.toNat : Int) - 48)) 0
/-- a number of one to three digits without a zero ahead, or -1 -/
def numB (l : List UInt8) : Int := if l.length < 1 ∨ 3 < l.length ∨ (1 < l.length ∧ l.head? = some 48) then -1 else if l.all digB then valB l else -1
/-- a number read loosely -/
def rnumB (l : List UInt8) : Int := (l.take 3).foldl (fun n c => 10 * n + (c.toNat : Int) - 48) 0
theorem num_dg : ∀ u : Nat, u < 102 → numB (dg3 u) = u ∧ rnumB (dg3 u) = u ∧ (32 : UInt8) ∉ dg3 u ∧ (10 : UInt8) ∉ dg3 u := by decide +kernel
theorem num_it {n : Int} (h0 : 0 ≤ n) (h : n ≤ 101) : numB (itB n).data.toList = n ∧ rnumB (itB n).data.toList = n ∧ (32 : UInt8) ∉ (itB n).data.toList ∧ (10 : UInt8) ∉ (itB n).data.toList := by
  have := num_dg n.toNat (by omega)
  rw [itB_data h0 h]
  obtain ⟨h1, h2, h3⟩ := this
  exact ⟨by rw [h1]; omega, by rw [h2]; omega, h3⟩
theorem of_toNat {a : UInt8} {n : Nat} (h : n = a.toNat) : UInt8.ofNat n = a := by subst h; simp
theorem num_inv {l : List UInt8} (h0 : 0 ≤ numB l) (h1 : numB l ≤ 101) : l = (itB (numB l)).data.toList := by
  rw [itB_data h0 h1]
  unfold numB at h0 h1 ⊢
  split at h0
  · omega
  · rename_i hn
    rw [if_neg hn] at h1 ⊢
    split at h0
    · rename_i ha
      rw [if_pos ha] at h1 ⊢
      simp only [not_or, not_and, Nat.not_lt] at hn
      match l, hn with
      | [], hn => simp at hn
      | [a], hn =>
        simp [digB] at ha
        have hv : valB [a] = (a.toNat : Int) - 48 := by simp [valB]
        rw [hv]; unfold dg3
        rw [if_pos (by omega)]
        congr 1
        exact (of_toNat (by omega)).symm
      | [a, b], hn =>
        simp [digB] at ha
        have h48 : a.toNat ≠ 48 := fun e => by
          have := hn.2.2 (by simp)
          apply this
          simp
          exact UInt8.toNat_inj.1 e
        have hv : valB [a, b] = 10 * ((a.toNat : Int) - 48) + ((b.toNat : Int) - 48) := by simp [valB]
        rw [hv]; unfold dg3
        rw [if_neg (by omega), if_pos (by omega)]
        congr 1
        · exact (of_toNat (by omega)).symm
        · congr 1
          exact (of_toNat (by omega)).symm
      | [a, b, c], hn =>
        simp [digB] at ha
        have h48 : a.toNat ≠ 48 := fun e => by
          have := hn.2.2 (by simp)
          apply this
          simp
          exact UInt8.toNat_inj.1 e
        have hv : valB [a, b, c] = 10 * (10 * ((a.toNat : Int) - 48) + ((b.toNat : Int) - 48)) + ((c.toNat : Int) - 48) := by simp [valB]
        rw [hv]; unfold dg3
        rw [if_neg (by omega), if_neg (by omega)]
        congr 1
        · exact (of_toNat (by omega)).symm
        · congr 1
          · exact (of_toNat (by omega)).symm
          · congr 1
            exact (of_toNat (by omega)).symm
      | a :: b :: c :: d :: r, hn => simp at hn
    · omega
theorem num_nil : numB [] = -1 := by decide
/-- a rule's line without the line's end -/
def lineN (r : Rul) : List UInt8 := Lib.join ((wordsR r).map (·.data.toList)) [32]
theorem lineR_N (r : Rul) : lineR r = lineN r ++ [10] := rfl
theorem let_clean {l : List UInt8} (h : lettersB l = true) : (32 : UInt8) ∉ l ∧ (10 : UInt8) ∉ l := by
  unfold lettersB at h
  rw [List.all_eq_true] at h
  exact ⟨fun hm => by have := h _ hm; revert this; decide, fun hm => by have := h _ hm; revert this; decide⟩
theorem sym_clean {l : List UInt8} (h : symB l = true) : (32 : UInt8) ∉ l ∧ (10 : UInt8) ∉ l := by
  unfold symB at h
  split at h
  · rename_i c
    rw [Bool.or_eq_true] at h
    have : ∀ x : UInt8, (letB x || hasB signsL x) = true → x ≠ 32 ∧ x ≠ 10 := by
      intro x hx
      constructor <;> (rintro rfl; revert hx; decide)
    have h2 := this c (by rw [Bool.or_eq_true]; exact h)
    simp only [List.mem_singleton]
    exact ⟨fun e => h2.1 e.symm, fun e => h2.2 e.symm⟩
  · simp only [Bool.and_eq_true] at h
    exact let_clean h.2.2.1
theorem own_clean {r : Rul} (h : ownB r = true) : ∀ w ∈ (wordsR r).map (·.data.toList), (32 : UInt8) ∉ w ∧ (10 : UInt8) ∉ w := by
  have ho := ownR_of h
  have hp := (num_it ho.prec.1 ho.prec.2).2.2
  have hl := (num_it ho.left.1 ho.left.2).2.2
  have hr := (num_it ho.right.1 ho.right.2).2.2
  have hn : (32 : UInt8) ∉ r.nam.data.toList ∧ (10 : UInt8) ∉ r.nam.data.toList := by
    unfold ownB at h
    simp only [Bool.and_eq_true, namedB, ByteArray.toList_eq] at h
    exact let_clean h.1.1
  have hs : (32 : UInt8) ∉ r.sym.data.toList ∧ (10 : UInt8) ∉ r.sym.data.toList := by
    unfold ownB at h
    simp only [Bool.and_eq_true, ByteArray.toList_eq] at h
    have hk := h.2.2.2.2
    split at hk
    · exact sym_clean hk
    · split at hk
      · simp only [Bool.and_eq_true] at hk; exact sym_clean hk.1
      · split at hk
        · simp only [Bool.and_eq_true] at hk; exact sym_clean hk.1
        · simp only [Bool.and_eq_true, List.isEmpty_iff] at hk; rw [hk.2]; simp
  have w1 : (32 : UInt8) ∉ ([105, 110, 102, 105, 120] : List UInt8) ∧ (10 : UInt8) ∉ ([105, 110, 102, 105, 120] : List UInt8) := by decide
  have w2 : (32 : UInt8) ∉ ([112, 114, 101, 102, 105, 120] : List UInt8) ∧ (10 : UInt8) ∉ ([112, 114, 101, 102, 105, 120] : List UInt8) := by decide
  have w3 : (32 : UInt8) ∉ ([112, 111, 115, 116, 102, 105, 120] : List UInt8) ∧ (10 : UInt8) ∉ ([112, 111, 115, 116, 102, 105, 120] : List UInt8) := by decide
  have w4 : (32 : UInt8) ∉ ([106, 117, 120, 116, 97, 112, 111, 115, 101] : List UInt8) ∧ (10 : UInt8) ∉ ([106, 117, 120, 116, 97, 112, 111, 115, 101] : List UInt8) := by decide
  intro w hw
  unfold wordsR at hw
  rcases ho.kind with hk | hk | hk | hk
  · rw [if_pos hk] at hw
    simp only [words1, List.map_cons, List.map_nil, List.mem_cons, List.not_mem_nil, or_false] at hw
    rcases hw with rfl | rfl | rfl | rfl | rfl | rfl <;> assumption
  · rw [if_neg (by omega), if_pos hk] at hw
    simp only [words2, List.map_cons, List.map_nil, List.mem_cons, List.not_mem_nil, or_false] at hw
    rcases hw with rfl | rfl | rfl | rfl | rfl <;> assumption
  · rw [if_neg (by omega), if_neg (by omega), if_pos hk] at hw
    simp only [words3, List.map_cons, List.map_nil, List.mem_cons, List.not_mem_nil, or_false] at hw
    rcases hw with rfl | rfl | rfl | rfl | rfl <;> assumption
  · rw [if_neg (by omega), if_neg (by omega), if_neg (by omega)] at hw
    simp only [words4, List.map_cons, List.map_nil, List.mem_cons, List.not_mem_nil, or_false] at hw
    rcases hw with rfl | rfl | rfl | rfl | rfl <;> assumption
theorem words_ne (r : Rul) : (wordsR r).map (·.data.toList) ≠ [] := by
  unfold wordsR
  split
  · simp [words1]
  · split
    · simp [words2]
    · split
      · simp [words3]
      · simp [words4]
theorem split_line {r : Rul} (h : ownB r = true) : splitL 32 (lineN r) = (wordsR r).map (·.data.toList) :=
  splitL_join 32 _ (words_ne r) fun w hw => (own_clean h w hw).1
theorem join_clean {c d : UInt8} (hcd : c ≠ d) : ∀ {ws : List (List UInt8)}, (∀ w ∈ ws, c ∉ w) → c ∉ Lib.join ws [d]
  | [], _ => by simp [Lib.join]
  | [w], h => by simpa [Lib.join] using h w (by simp)
  | w :: v :: r, h => by
    have ih := join_clean hcd (ws := v :: r) fun x hx => h x (List.mem_cons_of_mem _ hx)
    have e : Lib.join (w :: v :: r) [d] = w ++ d :: Lib.join (v :: r) [d] := by simp [Lib.join]
    rw [e, List.mem_append, List.mem_cons]
    rintro (h1 | h1 | h1)
    · exact h w (by simp) h1
    · exact hcd h1
    · exact ih h1
theorem line_clean {r : Rul} (h : ownB r = true) : (10 : UInt8) ∉ lineN r := join_clean (by decide) fun w hw => (own_clean h w hw).2
/-- how the rules of a kind are written -/
structure Shp where
  kind : Int
  word : List UInt8
  sy : Bool
  le : Bool
  ri : Bool
abbrev sh1 : Shp := ⟨1, [105, 110, 102, 105, 120], true, true, true⟩
abbrev sh2 : Shp := ⟨2, [112, 114, 101, 102, 105, 120], true, false, true⟩
abbrev sh3 : Shp := ⟨3, [112, 111, 115, 116, 102, 105, 120], true, true, false⟩
abbrev sh4 : Shp := ⟨4, [106, 117, 120, 116, 97, 112, 111, 115, 101], false, true, true⟩
def takeL (b : Bool) (l : List (List UInt8)) : List UInt8 × List (List UInt8) := if b then (l.headD [], l.tail) else ([], l)
abbrev zeroR : Rul := ⟨0, ⟨#[]⟩, ⟨#[]⟩, 0, 0, 0⟩
/-- the rule of a shape with words, and the words that are left -/
def rulS (s : Shp) (r0 : List (List UInt8)) : Rul × List (List UInt8) :=
  let r1 := (takeL s.sy r0).2
  let r2 := (takeL true r1).2
  let r3 := (takeL true r2).2
  let r4 := (takeL s.le r3).2
  (⟨s.kind, bys (takeL s.sy r0).1, bys (takeL true r1).1, numB (takeL true r2).1, if s.le then numB (takeL s.le r3).1 else 0, if s.ri then numB (takeL s.ri r4).1 else 0⟩, (takeL s.ri r4).2)
def readS (s : Shp) (rest : List (List UInt8)) : Rul × Bool := ((rulS s rest).1, (rulS s rest).2.isEmpty && ownB (rulS s rest).1)
def parseW (ws : List (List UInt8)) : Rul × Bool :=
  if ws.headD [] = sh1.word then readS sh1 ws.tail else if ws.headD [] = sh2.word then readS sh2 ws.tail else if ws.headD [] = sh3.word then readS sh3 ws.tail else if ws.headD [] = sh4.word then readS sh4 ws.tail else (zeroR, false)
def okP (l : List UInt8) : Option Rul := if (parseW (splitL 32 l)).2 then some (parseW (splitL 32 l)).1 else none
def readR (ws : List (List UInt8)) : Rul :=
  if ws.headD [] = sh1.word ∧ ws.length = 6 then ⟨1, bys (ws.getD 1 []), bys (ws.getD 2 []), rnumB (ws.getD 3 []), rnumB (ws.getD 4 []), rnumB (ws.getD 5 [])⟩
  else if ws.headD [] = sh2.word ∧ ws.length = 5 then ⟨2, bys (ws.getD 1 []), bys (ws.getD 2 []), rnumB (ws.getD 3 []), 0, rnumB (ws.getD 4 [])⟩
  else if ws.headD [] = sh3.word ∧ ws.length = 5 then ⟨3, bys (ws.getD 1 []), bys (ws.getD 2 []), rnumB (ws.getD 3 []), rnumB (ws.getD 4 []), 0⟩
  else if ws.headD [] = sh4.word ∧ ws.length = 5 then ⟨4, ⟨#[]⟩, bys (ws.getD 1 []), rnumB (ws.getD 2 []), rnumB (ws.getD 3 []), rnumB (ws.getD 4 [])⟩
  else zeroR
def okR (l : List UInt8) : Option Rul := if ownB (readR (splitL 32 l)) && (lineN (readR (splitL 32 l)) == l) then some (readR (splitL 32 l)) else none
structure OwnK (r : Rul) : Prop where
  left : r.kind = 2 → r.left = 0
  right : r.kind = 3 → r.right = 0
  sym : r.kind = 4 → r.sym = ⟨#[]⟩
theorem ownK_of {r : Rul} (h : ownB r = true) : OwnK r := by
  unfold ownB at h
  simp only [Bool.and_eq_true] at h
  have hk := h.2.2.2.2
  refine ⟨fun e => ?_, fun e => ?_, fun e => ?_⟩
  · rw [if_neg (by omega), if_pos e] at hk
    simp only [Bool.and_eq_true, decide_eq_true_eq] at hk
    exact hk.2
  · rw [if_neg (by omega), if_neg (by omega), if_pos e] at hk
    simp only [Bool.and_eq_true, decide_eq_true_eq] at hk
    exact hk.2
  · rw [if_neg (by omega), if_neg (by omega), if_neg (by omega)] at hk
    simp only [Bool.and_eq_true, List.isEmpty_iff, ByteArray.toList_eq] at hk
    have := hk.2
    rw [← data_bys r.sym, this]
    rfl
theorem words_kind {r : Rul} : (r.kind = 1 → wordsR r = words1 r.sym r.nam r.prec r.left r.right) ∧ (r.kind = 2 → wordsR r = words2 r.sym r.nam r.prec r.right) ∧ (r.kind = 3 → wordsR r = words3 r.sym r.nam r.prec r.left) ∧ (r.kind = 4 → wordsR r = words4 r.nam r.prec r.left r.right) := by
  unfold wordsR
  refine ⟨fun h => if_pos h, fun h => ?_, fun h => ?_, fun h => ?_⟩
  · rw [if_neg (by omega), if_pos h]
  · rw [if_neg (by omega), if_neg (by omega), if_pos h]
  · rw [if_neg (by omega), if_neg (by omega), if_neg (by omega)]
theorem okP_of {r : Rul} (h : ownB r = true) : okP (lineN r) = some r := by
  unfold okP
  rw [split_line h]
  have ho := ownR_of h
  have hK := ownK_of h
  have hp := (num_it ho.prec.1 ho.prec.2).1
  have hl := (num_it ho.left.1 ho.left.2).1
  have hr := (num_it ho.right.1 ho.right.2).1
  obtain ⟨k1, k2, k3, k4⟩ := words_kind (r := r)
  have fin : parseW ((wordsR r).map (·.data.toList)) = (r, true) := by
    obtain ⟨kind, sym, nam, prec, left, right⟩ := r
    dsimp only at hp hl hr k1 k2 k3 k4 ho hK
    rcases ho.kind with hk | hk | hk | hk <;> dsimp only at hk <;> subst hk
    · rw [k1 rfl]
      simp [parseW, words1, readS, rulS, takeL, hp, hl, hr, data_bys, h]
    · have := hK.left rfl
      dsimp only at this
      subst this
      rw [k2 rfl]
      simp [parseW, words2, readS, rulS, takeL, hp, hr, data_bys, h]
    · have := hK.right rfl
      dsimp only at this
      subst this
      rw [k3 rfl]
      simp [parseW, words3, readS, rulS, takeL, hp, hl, data_bys, h]
    · have := hK.sym rfl
      dsimp only at this
      subst this
      rw [k4 rfl]
      simp [parseW, words4, readS, rulS, takeL, hp, hl, hr, h, bys]
  rw [fin]
  rfl
theorem okR_of {r : Rul} (h : ownB r = true) : okR (lineN r) = some r := by
  unfold okR
  rw [split_line h]
  have ho := ownR_of h
  have hK := ownK_of h
  have hp := (num_it ho.prec.1 ho.prec.2).2.1
  have hl := (num_it ho.left.1 ho.left.2).2.1
  have hr := (num_it ho.right.1 ho.right.2).2.1
  obtain ⟨k1, k2, k3, k4⟩ := words_kind (r := r)
  have fin : readR ((wordsR r).map (·.data.toList)) = r := by
    obtain ⟨kind, sym, nam, prec, left, right⟩ := r
    dsimp only at hp hl hr k1 k2 k3 k4 ho hK
    rcases ho.kind with hk | hk | hk | hk <;> dsimp only at hk <;> subst hk
    · rw [k1 rfl]
      simp [readR, words1, hp, hl, hr, data_bys]
    · have := hK.left rfl
      dsimp only at this
      subst this
      rw [k2 rfl]
      simp [readR, words2, hp, hr, data_bys]
    · have := hK.right rfl
      dsimp only at this
      subst this
      rw [k3 rfl]
      simp [readR, words3, hp, hl, data_bys]
    · have := hK.sym rfl
      dsimp only at this
      subst this
      rw [k4 rfl]
      simp [readR, words4, hp, hl, hr, data_bys]
  rw [fin, h]
  simp
theorem okR_inv {l : List UInt8} {r : Rul} (h : okR l = some r) : ownB r = true ∧ l = lineN r := by
  unfold okR at h
  split at h
  · rename_i hc
    obtain rfl := Option.some.inj h
    simp only [Bool.and_eq_true, beq_iff_eq] at hc
    exact ⟨hc.1, hc.2.symm⟩
  · cases h
theorem own_num {r : Rul} (h : ownB r = true) : 0 ≤ r.prec ∧ r.prec ≤ 101 ∧ 0 ≤ r.left ∧ r.left ≤ 101 ∧ 0 ≤ r.right ∧ r.right ≤ 101 := by
  have ho := ownR_of h
  exact ⟨ho.prec.1, ho.prec.2, ho.left.1, ho.left.2, ho.right.1, ho.right.2⟩
theorem readS_inv {s : Shp} {rest : List (List UInt8)} (hs : s = sh1 ∨ s = sh2 ∨ s = sh3 ∨ s = sh4) (h : (readS s rest).2 = true) : ownB (readS s rest).1 = true ∧ (s.word :: rest) = (wordsR (readS s rest).1).map (·.data.toList) := by
  unfold readS at h ⊢
  rw [Bool.and_eq_true, List.isEmpty_iff] at h
  obtain ⟨h1, h2⟩ := h
  refine ⟨h2, ?_⟩
  have hn := own_num h2
  obtain ⟨k1, k2, k3, k4⟩ := words_kind (r := (rulS s rest).1)
  have n0 := num_nil
  rcases hs with rfl | rfl | rfl | rfl
  · rw [k1 rfl]
    match rest, h1, hn with
    | [], _, hn => simp [rulS, takeL, n0] at hn
    | [a], _, hn => simp [rulS, takeL, n0] at hn
    | [a, b], _, hn => simp [rulS, takeL, n0] at hn
    | [a, b, c], _, hn => simp [rulS, takeL, n0] at hn
    | [a, b, c, d], _, hn => simp [rulS, takeL, n0] at hn
    | [a, b, c, d, e], _, hn =>
      simp only [rulS, takeL, if_true, List.headD_cons, List.tail_cons] at hn ⊢
      obtain ⟨a1, a2, a3, a4, a5, a6⟩ := hn
      simp only [words1, List.map_cons, List.map_nil, bys_data, ← num_inv a1 a2, ← num_inv a3 a4, ← num_inv a5 a6]
    | a :: b :: c :: d :: e :: f :: g, h1, _ => simp [rulS, takeL] at h1
  · rw [k2 rfl]
    match rest, h1, hn with
    | [], _, hn => simp [rulS, takeL, n0] at hn
    | [a], _, hn => simp [rulS, takeL, n0] at hn
    | [a, b], _, hn => simp [rulS, takeL, n0] at hn
    | [a, b, c], _, hn => simp [rulS, takeL, n0] at hn
    | [a, b, c, d], _, hn =>
      simp only [rulS, takeL, if_true, List.headD_cons, List.tail_cons, Bool.false_eq_true, if_false] at hn ⊢
      obtain ⟨a1, a2, _, _, a5, a6⟩ := hn
      simp only [words2, List.map_cons, List.map_nil, bys_data, ← num_inv a1 a2, ← num_inv a5 a6]
    | a :: b :: c :: d :: e :: f, h1, _ => simp [rulS, takeL] at h1
  · rw [k3 rfl]
    match rest, h1, hn with
    | [], _, hn => simp [rulS, takeL, n0] at hn
    | [a], _, hn => simp [rulS, takeL, n0] at hn
    | [a, b], _, hn => simp [rulS, takeL, n0] at hn
    | [a, b, c], _, hn => simp [rulS, takeL, n0] at hn
    | [a, b, c, d], _, hn =>
      simp only [rulS, takeL, if_true, List.headD_cons, List.tail_cons, Bool.false_eq_true, if_false] at hn ⊢
      obtain ⟨a1, a2, a3, a4, _, _⟩ := hn
      simp only [words3, List.map_cons, List.map_nil, bys_data, ← num_inv a1 a2, ← num_inv a3 a4]
    | a :: b :: c :: d :: e :: f, h1, _ => simp [rulS, takeL] at h1
  · rw [k4 rfl]
    match rest, h1, hn with
    | [], _, hn => simp [rulS, takeL, n0] at hn
    | [a], _, hn => simp [rulS, takeL, n0] at hn
    | [a, b], _, hn => simp [rulS, takeL, n0] at hn
    | [a, b, c], _, hn => simp [rulS, takeL, n0] at hn
    | [a, b, c, d], _, hn =>
      simp only [rulS, takeL, if_true, List.headD_cons, List.tail_cons, Bool.false_eq_true, if_false] at hn ⊢
      obtain ⟨a1, a2, a3, a4, a5, a6⟩ := hn
      simp only [words4, List.map_cons, List.map_nil, bys_data, ← num_inv a1 a2, ← num_inv a3 a4, ← num_inv a5 a6]
    | a :: b :: c :: d :: e :: f, h1, _ => simp [rulS, takeL] at h1
theorem okP_inv {l : List UInt8} {r : Rul} (h : okP l = some r) : ownB r = true ∧ l = lineN r := by
  unfold okP at h
  split at h
  · rename_i hc
    obtain rfl := Option.some.inj h
    have hj := join_split 32 l
    have hht := splitL_ht 32 l
    generalize splitL 32 l = ws at *
    have go : ∀ s : Shp, (s = sh1 ∨ s = sh2 ∨ s = sh3 ∨ s = sh4) → ws.headD [] = s.word → parseW ws = readS s ws.tail → ownB (parseW ws).1 = true ∧ l = lineN (parseW ws).1 := by
      intro s hs hw hp
      rw [hp] at hc ⊢
      obtain ⟨h1, h2⟩ := readS_inv hs hc
      refine ⟨h1, ?_⟩
      unfold lineN
      rw [← h2, ← hj, ← hw, hht]
    unfold parseW at hc go ⊢
    split at hc
    · rename_i hw; exact go sh1 (by simp) hw (if_pos hw)
    · rename_i n1
      split at hc
      · rename_i hw; exact go sh2 (by simp) hw (by rw [if_neg n1, if_pos hw])
      · rename_i n2
        split at hc
        · rename_i hw; exact go sh3 (by simp) hw (by rw [if_neg n1, if_neg n2, if_pos hw])
        · rename_i n3
          split at hc
          · rename_i hw; exact go sh4 (by simp) hw (by rw [if_neg n1, if_neg n2, if_neg n3, if_pos hw])
          · cases hc
  · cases h
theorem ok_same (l : List UInt8) : okR l = okP l := by
  cases h : okP l with
  | some r =>
    obtain ⟨h1, rfl⟩ := okP_inv h
    exact okR_of h1
  | none =>
    cases h2 : okR l with
    | none => rfl
    | some r =>
      obtain ⟨h1, rfl⟩ := okR_inv h2
      rw [okP_of h1] at h
      cases h
/-- what the lines of a text come to: the number of a bad line, or rules -/
inductive Rd where
  | bad (n : Nat)
  | good (rs : List Rul)
def rd : List (List UInt8) → Nat → List Rul → Rd
  | [], _, acc => .good acc
  | [l], n, acc => if l = [] then .good acc else .bad (n + 1)
  | l :: m :: ls, n, acc => match okP l with
    | some r => rd (m :: ls) (n + 1) (acc ++ [r])
    | none => .bad (n + 1)
theorem rd_nil (n : Nat) (acc : List Rul) : rd (splitL 10 []) n acc = .good acc := by simp [splitL, rd]
theorem rd_miss {t : List UInt8} (h : (10 : UInt8) ∉ t) (hne : t ≠ []) (n : Nat) (acc : List Rul) : rd (splitL 10 t) n acc = .bad (n + 1) := by
  rw [splitL_none h, rd, if_neg hne]
theorem rd_cons (a : List UInt8) {ls : List (List UInt8)} (hls : ls ≠ []) (n : Nat) (acc : List Rul) : rd (a :: ls) n acc = match okP a with
    | some r => rd ls (n + 1) (acc ++ [r])
    | none => .bad (n + 1) := by
  cases ls with
  | nil => exact absurd rfl hls
  | cons m ls => rw [rd]
theorem rd_hit {a b : List UInt8} (h : (10 : UInt8) ∉ a) (n : Nat) (acc : List Rul) {r : Rul} (hr : okP a = some r) : rd (splitL 10 (a ++ 10 :: b)) n acc = rd (splitL 10 b) (n + 1) (acc ++ [r]) := by
  rw [splitL_app h, rd_cons _ (splitL_ne 10 b), hr]
theorem rd_bad {a b : List UInt8} (h : (10 : UInt8) ∉ a) (n : Nat) (acc : List Rul) (hr : okP a = none) : rd (splitL 10 (a ++ 10 :: b)) n acc = .bad (n + 1) := by
  rw [splitL_app h, rd_cons _ (splitL_ne 10 b), hr]
theorem textOf_cons (r : Rul) (rs : List Rul) : textOf (r :: rs) = lineN r ++ 10 :: textOf rs := by
  simp [textOf, lineR_N]
theorem rd_text : ∀ (rs : List Rul) (n : Nat) (acc : List Rul), (∀ r ∈ rs, ownB r = true) → rd (splitL 10 (textOf rs)) n acc = .good (acc ++ rs)
  | [], n, acc, _ => by rw [show textOf [] = [] from rfl, rd_nil, List.append_nil]
  | r :: rs, n, acc, h => by
    have h1 := h r List.mem_cons_self
    rw [textOf_cons, rd_hit (line_clean h1) n acc (okP_of h1), rd_text rs _ _ fun x hx => h x (List.mem_cons_of_mem _ hx), List.append_assoc]
    rfl
theorem rd_inv : ∀ (k : Nat) (t : List UInt8) (n : Nat) (acc rs : List Rul), t.length ≤ k → rd (splitL 10 t) n acc = .good rs → ∃ rs', rs = acc ++ rs' ∧ textOf rs' = t ∧ ∀ r ∈ rs', ownB r = true := by
  intro k
  induction k with
  | zero =>
    intro t n acc rs hk h
    obtain rfl : t = [] := List.length_eq_zero_iff.1 (by omega)
    rw [rd_nil] at h
    cases h
    exact ⟨[], by simp, rfl, by simp⟩
  | succ k ih =>
    intro t n acc rs hk h
    rcases mem_split 10 t with hm | ⟨a, b, rfl, hm⟩
    · by_cases he : t = []
      · subst he
        rw [rd_nil] at h
        cases h
        exact ⟨[], by simp, rfl, by simp⟩
      · rw [rd_miss hm he] at h
        cases h
    · cases ho : okP a with
      | none => rw [rd_bad hm n acc ho] at h; cases h
      | some r =>
        rw [rd_hit hm n acc ho] at h
        obtain ⟨rs', h1, h2, h3⟩ := ih b _ _ rs (by simp at hk; omega) h
        obtain ⟨h4, rfl⟩ := okP_inv ho
        refine ⟨r :: rs', by rw [h1]; simp, by rw [textOf_cons, h2], fun x hx => ?_⟩
        rcases List.mem_cons.1 hx with rfl | hx
        · exact h4
        · exact h3 x hx
/-- the first rule that may not stand there: its line and the error -/
def scan (rs : List Rul) : Nat → Option (Nat × Int)
  | 0 => none
  | k + 1 => match scan rs k with
    | some e => some e
    | none => match rs[k]? with
      | some r => if freshB (rs.take k) r then (if k = 64 then some (k + 1, 6) else none) else some (k + 1, 9)
      | none => none
theorem scan_some {rs : List Rul} {k j : Nat} {e : Nat × Int} (h : scan rs k = some e) (hj : k ≤ j) : scan rs j = some e := by
  induction j with
  | zero => obtain rfl : k = 0 := by omega
            exact h
  | succ j ih =>
    by_cases e : k = j + 1
    · rw [← e]; exact h
    · rw [scan, ih (by omega)]
theorem scan_succ {rs : List Rul} {k : Nat} {r : Rul} (h : scan rs k = none) (hr : rs[k]? = some r) : scan rs (k + 1) = if freshB (rs.take k) r then (if k = 64 then some (k + 1, 6) else none) else some (k + 1, 9) := by
  rw [scan, h, hr]
theorem scan_firsts {rs : List Rul} (ho : ∀ r ∈ rs, ownB r = true) : ∀ (k : Nat), k ≤ rs.length → scan rs k = none → firstsB rs k = true ∧ k ≤ 64
  | 0, _, _ => ⟨rfl, by omega⟩
  | k + 1, hk, h => by
    cases h2 : scan rs k with
    | some e => rw [scan_some h2 (Nat.le_succ k)] at h; cases h
    | none =>
      obtain ⟨h3, h4⟩ := scan_firsts ho k (by omega) h2
      have hr : rs[k]? = some rs[k] := List.getElem?_eq_getElem (by omega)
      rw [scan_succ h2 hr] at h
      split at h
      · rename_i hf
        split at h
        · cases h
        · rw [firsts_succ hr, h3, ho _ (List.getElem_mem _), hf]
          exact ⟨rfl, by omega⟩
      · cases h
theorem scan_valid {rs : List Rul} (h : validB rs = true) : ∀ (k : Nat), k ≤ rs.length → scan rs k = none
  | 0, _ => rfl
  | k + 1, hk => by
    have hl := valid_len h
    have hr : rs[k]? = some rs[k] := List.getElem?_eq_getElem (by omega)
    rw [scan_succ (scan_valid h k (by omega)) hr, if_pos (valid_fresh h hr), if_neg (by omega)]
/-- what Parse returns -/
def parseAll (s : List UInt8) : List Rul × Int × Int := match rd (splitL 10 s) 0 [] with
  | .bad n => ([], n, 3)
  | .good rs => match scan rs rs.length with
    | some (l, e) => ([], l, e)
    | none => (rs, 0, 0)
theorem parse_text {rs : List Rul} (h : validB rs = true) : parseAll (textOf rs) = (rs, 0, 0) := by
  unfold parseAll
  rw [rd_text rs 0 [] fun r hr => by
    obtain ⟨k, hk⟩ := List.mem_iff_getElem?.1 hr
    exact valid_own h hk]
  simp only [List.nil_append]
  rw [scan_valid h _ (Nat.le_refl _)]
theorem parse_inv {s : List UInt8} {rs : List Rul} {n : Int} (h : parseAll s = (rs, n, 0)) : validB rs = true ∧ textOf rs = s := by
  unfold parseAll at h
  cases h1 : rd (splitL 10 s) 0 [] with
  | bad k => rw [h1] at h; simp at h
  | good qs =>
    rw [h1] at h
    obtain ⟨rs', h2, h3, h4⟩ := rd_inv _ s 0 [] qs (Nat.le_refl _) h1
    obtain rfl : qs = rs' := by simpa using h2
    simp only at h
    cases h5 : scan qs qs.length with
    | some e =>
      rw [h5] at h
      simp only [Prod.mk.injEq] at h
      have he : ∀ k e, scan qs k = some e → e.2 ≠ 0 := by
        intro k
        induction k with
        | zero => intro e he; cases he
        | succ k ih =>
          intro e he
          rw [scan] at he
          split at he
          · rename_i e' h6; obtain rfl := Option.some.inj he; exact ih _ h6
          · split at he
            · split at he
              · split at he
                · obtain rfl := Option.some.inj he; simp
                · cases he
              · obtain rfl := Option.some.inj he; simp
            · cases he
      exact absurd h.2.2 (he _ _ h5)
    | none =>
      rw [h5] at h
      simp only [Prod.mk.injEq] at h
      obtain rfl := h.1
      obtain ⟨h6, h7⟩ := scan_firsts h4 _ (Nat.le_refl _) h5
      refine ⟨?_, h3⟩
      unfold validB
      rw [decide_eq_true h7, h6]
      rfl
end Go.Proofs.YtgkfmeagpmjcoaaDoor
