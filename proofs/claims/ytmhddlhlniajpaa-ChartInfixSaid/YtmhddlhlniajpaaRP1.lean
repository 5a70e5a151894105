/- The program's applications of rules: plain. -/
import Derived.Test.YtmhddlhlniajpaaRP0
namespace Go.Proofs.Ytmhddlhlniajpaa
/-- the first rule of a kind with a symbol -/
def findR (rs : List Rul) (kind : Int) (s : List UInt8) : Option Nat := rs.findIdx? fun r => decide (r.kind = kind) && r.sym.toList == s
def findI (rs : List Rul) (kind : Int) (s : List UInt8) : Int := match findR rs kind s with
  | some n => n
  | none => -1
/-- an application of a rule -/
structure App where
  rule : Nat
  frm : Nat
  left : Nat
  right : Nat
  to : Nat
  kids : Nat
def tokL (ts : List ByteArray) (k : Nat) : List UInt8 := (ts.getD k ⟨#[]⟩).toList
def preA (rs : List Rul) (ts : List ByteArray) (i j : Nat) : List App := match findR rs 2 (tokL ts i) with
  | some r => if i + 1 < j then [⟨r, i + 1, j, 0, 0, 1⟩] else []
  | none => []
def postA (rs : List Rul) (ts : List ByteArray) (i j : Nat) : List App := match findR rs 3 (tokL ts (j - 1)) with
  | some r => if i + 1 < j then [⟨r, i, j - 1, 0, 0, 1⟩] else []
  | none => []
def inA (rs : List Rul) (ts : List ByteArray) (i j k : Nat) : List App := match findR rs 1 (tokL ts k) with
  | some r => if k + 1 < j then [⟨r, i, k, k + 1, j, 2⟩] else []
  | none => []
def juxA (rs : List Rul) (i j k : Nat) : List App := match findR rs 4 [] with
  | some r => [⟨r, i, k, k, j, 2⟩]
  | none => []
def midA (rs : List Rul) (ts : List ByteArray) (i j k : Nat) : List App := inA rs ts i j k ++ juxA rs i j k
def appsR (rs : List Rul) (ts : List ByteArray) (i j : Nat) : List App := preA rs ts i j ++ postA rs ts i j ++ (List.range' (i + 1) (j - (i + 1))).flatMap (midA rs ts i j)
/-- the least precedences of the operands -/
def lowR (rs : List Rul) (n : Nat) : Int := match rs[n]? with
  | some x => if x.kind = 2 then x.right else x.left
  | none => 0
def highR (rs : List Rul) (n : Nat) : Int := match rs[n]? with
  | some x => if x.kind = 2 then 0 else x.right
  | none => 0
/-- the readings that an application adds -/
def addsR (rs : List Rul) (ts : List ByteArray) (i : Nat) (a : App) : List Rd :=
  if a.kids = 1 then soloR a.rule i (firstR rs ts a.frm a.left (lowR rs a.rule)) else pairsR a.rule i (firstR rs ts a.frm a.left (lowR rs a.rule)) (firstR rs ts a.right a.to (highR rs a.rule))
/-- no two rules of a kind with a symbol -/
def Uniq (rs : List Rul) : Prop := ∀ (m n : Nat) (x y : Rul), rs[m]? = some x → rs[n]? = some y → x.kind = y.kind → x.sym.toList = y.sym.toList → m = n
theorem firsts_at {rs : List Rul} {n k : Nat} {x : Rul} (h : firstsB rs k = true) (hn : n < k) (hx : rs[n]? = some x) : ownB x = true ∧ freshB (rs.take n) x = true := by
  have h1 : firstsB rs (n + 1) = true := by
    cases hf : firstsB rs (n + 1)
    · rw [firsts_false hf (by omega)] at h; cases h
    · rfl
  rw [firsts_succ hx, Bool.and_eq_true, Bool.and_eq_true] at h1
  exact h1.2
theorem uniq_lt {rs : List Rul} (h : validB rs = true) {m n : Nat} {x y : Rul} (hm : rs[m]? = some x) (hn : rs[n]? = some y) (hk : x.kind = y.kind) (hs : x.sym.toList = y.sym.toList) (hl : m < n) : False := by
  unfold validB at h
  rw [Bool.and_eq_true] at h
  have h1 := (firsts_at h.2 (List.getElem?_eq_some_iff.1 hn).1 hn).2
  unfold freshB at h1
  rw [Bool.not_eq_true', List.any_eq_false] at h1
  have hmem : x ∈ rs.take n := List.mem_of_getElem? (i := m) (by rw [List.getElem?_take, if_pos hl]; exact hm)
  refine h1 x hmem ?_
  unfold clashB
  rw [decide_eq_true hk, hs]
  simp
theorem valid_uniq {rs : List Rul} (h : validB rs = true) : Uniq rs := by
  intro m n x y hm hn hk hs
  rcases Nat.lt_trichotomy m n with hl | hl | hl
  · exact (uniq_lt h hm hn hk hs hl).elim
  · exact hl
  · exact (uniq_lt h hn hm hk.symm hs.symm hl).elim
theorem valid_own {rs : List Rul} (h : validB rs = true) {n : Nat} {x : Rul} (hx : rs[n]? = some x) : ownB x = true := by
  unfold validB at h
  rw [Bool.and_eq_true] at h
  exact (firsts_at h.2 (List.getElem?_eq_some_iff.1 hx).1 hx).1
theorem find_some {rs : List Rul} {kind : Int} {s : List UInt8} {n : Nat} (h : findR rs kind s = some n) : ∃ x, rs[n]? = some x ∧ x.kind = kind ∧ x.sym.toList = s := by
  unfold findR at h
  rw [List.findIdx?_eq_some_iff_getElem] at h
  obtain ⟨hl, hp, _⟩ := h
  rw [Bool.and_eq_true] at hp
  exact ⟨rs[n], List.getElem?_eq_getElem hl, of_decide_eq_true hp.1, eq_of_beq hp.2⟩
theorem find_uniq {rs : List Rul} (hu : Uniq rs) {kind : Int} {s : List UInt8} {n : Nat} {x : Rul} (hx : rs[n]? = some x) (hk : x.kind = kind) (hs : x.sym.toList = s) : findR rs kind s = some n := by
  cases h : findR rs kind s with
  | none =>
    unfold findR at h
    rw [List.findIdx?_eq_none_iff] at h
    have := h x (List.mem_of_getElem? hx)
    rw [hs, decide_eq_true hk] at this
    simp at this
  | some m =>
    obtain ⟨y, hy, hk2, hs2⟩ := find_some h
    rw [hu m n y x hy hx (hk2.trans hk.symm) (hs2.trans hs.symm)]
/-- the applications of one rule -/
def ofApp (n : Nat) (l : List App) : List App := l.filter fun a => decide (a.rule = n)
theorem ofApp_append {n : Nat} {l m : List App} : ofApp n (l ++ m) = ofApp n l ++ ofApp n m := List.filter_append ..
theorem ofApp_flatMap {α : Type} {n : Nat} {A : α → List App} : ∀ l : List α, ofApp n (l.flatMap A) = l.flatMap fun x => ofApp n (A x)
  | [] => rfl
  | a :: l => by rw [List.flatMap_cons, List.flatMap_cons, ofApp_append, ofApp_flatMap l]
theorem ofApp_pre {rs : List Rul} (hu : Uniq rs) {ts : List ByteArray} {i j n : Nat} {x : Rul} (hx : rs[n]? = some x) : ofApp n (preA rs ts i j) = if x.kind = 2 ∧ x.sym.toList = tokL ts i ∧ i + 1 < j then [⟨n, i + 1, j, 0, 0, 1⟩] else [] := by
  unfold preA
  by_cases h : x.kind = 2 ∧ x.sym.toList = tokL ts i
  · rw [find_uniq hu hx h.1 h.2]
    by_cases hj : i + 1 < j
    · simp [hj, h.1, h.2, ofApp]
    · simp [hj, ofApp]
  · rw [if_neg (fun hh => h ⟨hh.1, hh.2.1⟩)]
    cases hf : findR rs 2 (tokL ts i) with
    | none => rfl
    | some m =>
      obtain ⟨y, hy, hk, hs⟩ := find_some hf
      have hne : m ≠ n := by
        rintro rfl
        rw [hx] at hy
        obtain rfl := Option.some.inj hy
        exact h ⟨hk, hs⟩
      by_cases hj : i + 1 < j <;> simp [hj, ofApp, hne]
theorem ofApp_post {rs : List Rul} (hu : Uniq rs) {ts : List ByteArray} {i j n : Nat} {x : Rul} (hx : rs[n]? = some x) : ofApp n (postA rs ts i j) = if x.kind = 3 ∧ x.sym.toList = tokL ts (j - 1) ∧ i + 1 < j then [⟨n, i, j - 1, 0, 0, 1⟩] else [] := by
  unfold postA
  by_cases h : x.kind = 3 ∧ x.sym.toList = tokL ts (j - 1)
  · rw [find_uniq hu hx h.1 h.2]
    by_cases hj : i + 1 < j
    · simp [hj, h.1, h.2, ofApp]
    · simp [hj, ofApp]
  · rw [if_neg (fun hh => h ⟨hh.1, hh.2.1⟩)]
    cases hf : findR rs 3 (tokL ts (j - 1)) with
    | none => rfl
    | some m =>
      obtain ⟨y, hy, hk, hs⟩ := find_some hf
      have hne : m ≠ n := by
        rintro rfl
        rw [hx] at hy
        obtain rfl := Option.some.inj hy
        exact h ⟨hk, hs⟩
      by_cases hj : i + 1 < j <;> simp [hj, ofApp, hne]
theorem ofApp_in {rs : List Rul} (hu : Uniq rs) {ts : List ByteArray} {i j k n : Nat} {x : Rul} (hx : rs[n]? = some x) : ofApp n (inA rs ts i j k) = if x.kind = 1 ∧ x.sym.toList = tokL ts k ∧ k + 1 < j then [⟨n, i, k, k + 1, j, 2⟩] else [] := by
  unfold inA
  by_cases h : x.kind = 1 ∧ x.sym.toList = tokL ts k
  · rw [find_uniq hu hx h.1 h.2]
    by_cases hj : k + 1 < j
    · simp [hj, h.1, h.2, ofApp]
    · simp [hj, ofApp]
  · rw [if_neg (fun hh => h ⟨hh.1, hh.2.1⟩)]
    cases hf : findR rs 1 (tokL ts k) with
    | none => rfl
    | some m =>
      obtain ⟨y, hy, hk, hs⟩ := find_some hf
      have hne : m ≠ n := by
        rintro rfl
        rw [hx] at hy
        obtain rfl := Option.some.inj hy
        exact h ⟨hk, hs⟩
      by_cases hj : k + 1 < j <;> simp [hj, ofApp, hne]
theorem ofApp_jux {rs : List Rul} (hu : Uniq rs) {i j k n : Nat} {x : Rul} (hx : rs[n]? = some x) : ofApp n (juxA rs i j k) = if x.kind = 4 ∧ x.sym.toList = [] then [⟨n, i, k, k, j, 2⟩] else [] := by
  unfold juxA
  by_cases h : x.kind = 4 ∧ x.sym.toList = []
  · rw [find_uniq hu hx h.1 h.2, if_pos h]
    simp [ofApp]
  · rw [if_neg h]
    cases hf : findR rs 4 [] with
    | none => rfl
    | some m =>
      obtain ⟨y, hy, hk, hs⟩ := find_some hf
      have hne : m ≠ n := by
        rintro rfl
        rw [hx] at hy
        obtain rfl := Option.some.inj hy
        exact h ⟨hk, hs⟩
      simp [ofApp, hne]
theorem tokB_iff {ts : List ByteArray} {k : Nat} (hk : k < ts.length) (s : List UInt8) : tokB ts k s = true ↔ s = tokL ts k := by
  unfold tokB tokL
  rw [List.getElem?_eq_getElem hk, List.getD_eq_getElem?_getD, List.getElem?_eq_getElem hk]
  show (ts[k].toList == s) = true ↔ s = ts[k].toList
  rw [beq_iff_eq]
  exact eq_comm
theorem lowR_at {rs : List Rul} {n : Nat} {x : Rul} (hx : rs[n]? = some x) : lowR rs n = if x.kind = 2 then x.right else x.left := by unfold lowR; rw [hx]
theorem highR_at {rs : List Rul} {n : Nat} {x : Rul} (hx : rs[n]? = some x) : highR rs n = if x.kind = 2 then 0 else x.right := by unfold highR; rw [hx]
theorem adds_one {rs : List Rul} {ts : List ByteArray} {i n a b : Nat} : addsR rs ts i ⟨n, a, b, 0, 0, 1⟩ = soloR n i (firstR rs ts a b (lowR rs n)) := rfl
theorem adds_two {rs : List Rul} {ts : List ByteArray} {i n a b c d : Nat} : addsR rs ts i ⟨n, a, b, c, d, 2⟩ = pairsR n i (firstR rs ts a b (lowR rs n)) (firstR rs ts c d (highR rs n)) := rfl
theorem solo_take {rs : List Rul} {ts : List ByteArray} {n i a b : Nat} {p : Int} : (soloR n i (firstR rs ts a b p)).take 2 = (soloR n i (leastR rs (allR rs ts a b) p)).take 2 := by
  unfold firstR; rw [solo_two, List.take_take, Nat.min_self]
theorem own_kind {r : Rul} (h : ownB r = true) : (r.kind = 1 ∨ r.kind = 2 ∨ r.kind = 3 ∨ (r.kind = 4 ∧ r.sym.toList = [])) := by
  unfold ownB at h
  simp only [Bool.and_eq_true] at h
  obtain ⟨_, _, _, _, h⟩ := h
  split at h
  · exact .inl ‹_›
  · split at h
    · exact .inr (.inl ‹_›)
    · split at h
      · exact .inr (.inr (.inl ‹_›))
      · rw [Bool.and_eq_true] at h
        exact .inr (.inr (.inr ⟨of_decide_eq_true h.1, List.isEmpty_iff.1 h.2⟩))
theorem solo_nil {r a : Int} : soloR r a [] = [] := rfl
theorem least_nil {rs : List Rul} {p : Int} : leastR rs [] p = [] := rfl
/-- THE LAW: of a rule, the first two that the program's applications add are the first two of the reference -/
theorem apps_rule {rs : List Rul} (hv : validB rs = true) {ts : List ByteArray} {i j n : Nat} (hij : i < j) (hj : j ≤ ts.length) (hn : n < rs.length) : ((ofApp n (appsR rs ts i j)).flatMap (addsR rs ts i)).take 2 = (ofRule rs ts (allR rs ts) i j n).take 2 := by
  obtain ⟨x, hx⟩ : ∃ x, rs[n]? = some x := ⟨_, List.getElem?_eq_getElem hn⟩
  have hu := valid_uniq hv
  unfold appsR
  rw [ofApp_append, ofApp_append, ofApp_flatMap, ofApp_pre hu hx, ofApp_post hu hx]
  have hmid : ((List.range' (i + 1) (j - (i + 1))).flatMap fun k => ofApp n (midA rs ts i j k)) = (List.range' (i + 1) (j - (i + 1))).flatMap fun k => (if x.kind = 1 ∧ x.sym.toList = tokL ts k ∧ k + 1 < j then [(⟨n, i, k, k + 1, j, 2⟩ : App)] else []) ++ (if x.kind = 4 ∧ x.sym.toList = [] then [(⟨n, i, k, k, j, 2⟩ : App)] else []) := by
    refine flatMap_congr' fun k _ => ?_
    unfold midA
    rw [ofApp_append, ofApp_in hu hx, ofApp_jux hu hx]
  rw [hmid]
  clear hmid
  unfold ofRule
  rw [hx]
  dsimp only
  rcases own_kind (valid_own hv hx) with hk | hk | hk | ⟨hk, hs⟩
  · rw [if_neg (show ¬ (x.kind = 2 ∧ x.sym.toList = tokL ts i ∧ i + 1 < j) from fun hh => by have := hh.1; have := hh.2.2; omega), if_neg (show ¬ (x.kind = 3 ∧ x.sym.toList = tokL ts (j - 1) ∧ i + 1 < j) from fun hh => by have := hh.1; have := hh.2.2; omega), if_pos hk, List.nil_append, List.nil_append]
    have hlow : lowR rs n = x.left := by rw [lowR_at hx, if_neg (by omega)]
    have hhigh : highR rs n = x.right := by rw [highR_at hx, if_neg (by omega)]
    rw [List.flatMap_assoc, ← take_flatMap 2 (fun k => if tokB ts k x.sym.toList = true then pairsR n i (leastR rs (allR rs ts i k) x.left) (leastR rs (allR rs ts (k + 1) j) x.right) else [])]
    have hr : List.range' (i + 1) (j - (i + 1)) = List.range' (i + 1) (j - 1 - (i + 1)) ++ (if i + 1 < j then [j - 1] else []) := by
      by_cases h : i + 1 < j
      · rw [if_pos h, show j - (i + 1) = (j - 1 - (i + 1)) + 1 by omega, List.range'_concat]
        congr 2
        omega
      · rw [if_neg h, show j - (i + 1) = 0 by omega, show j - 1 - (i + 1) = 0 by omega]
        rfl
    rw [hr, List.flatMap_append]
    have h0 : ((if i + 1 < j then [j - 1] else []).flatMap fun k => ((if x.kind = 1 ∧ x.sym.toList = tokL ts k ∧ k + 1 < j then [(⟨n, i, k, k + 1, j, 2⟩ : App)] else []) ++ (if x.kind = 4 ∧ x.sym.toList = [] then [(⟨n, i, k, k, j, 2⟩ : App)] else [])).flatMap (addsR rs ts i)) = [] := by
      by_cases h : i + 1 < j
      · rw [if_pos h]
        simp only [List.flatMap_cons, List.flatMap_nil, List.append_nil]
        rw [if_neg (show ¬ (x.kind = 1 ∧ x.sym.toList = tokL ts (j - 1) ∧ j - 1 + 1 < j) from fun hh => by have := hh.1; have := hh.2.2; omega), if_neg (show ¬ (x.kind = 4 ∧ x.sym.toList = []) by omega)]
        rfl
      · rw [if_neg h]
        rfl
    rw [h0, List.append_nil, ← take_flatMap 2]
    congr 1
    refine flatMap_congr' fun k hkr => ?_
    have hkm := mem_range1 hkr
    have hb := tokB_iff (ts := ts) (k := k) (by omega) x.sym.toList
    rw [if_neg (show ¬ (x.kind = 4 ∧ x.sym.toList = []) by omega), List.append_nil]
    by_cases ht : tokB ts k x.sym.toList = true
    · rw [if_pos (show x.kind = 1 ∧ x.sym.toList = tokL ts k ∧ k + 1 < j from ⟨hk, hb.1 ht, by omega⟩), if_pos ht, List.flatMap_cons, List.flatMap_nil, List.append_nil, adds_two, hlow, hhigh]
      exact pairs_two _ _ _ _
    · rw [if_neg (show ¬ (x.kind = 1 ∧ x.sym.toList = tokL ts k ∧ k + 1 < j) from fun hh => ht (hb.2 hh.2.1)), if_neg ht]
      rfl
  · rw [if_neg (show ¬ (x.kind = 3 ∧ x.sym.toList = tokL ts (j - 1) ∧ i + 1 < j) from fun hh => by have := hh.1; have := hh.2.2; omega), if_neg (show ¬ x.kind = 1 by omega), if_pos hk]
    have h0 : ((List.range' (i + 1) (j - (i + 1))).flatMap fun k => (if x.kind = 1 ∧ x.sym.toList = tokL ts k ∧ k + 1 < j then [(⟨n, i, k, k + 1, j, 2⟩ : App)] else []) ++ (if x.kind = 4 ∧ x.sym.toList = [] then [(⟨n, i, k, k, j, 2⟩ : App)] else [])) = [] := by
      refine (flatMap_congr' (g := fun _ => []) fun k _ => ?_).trans (flatMap_nil' _)
      rw [if_neg (show ¬ (x.kind = 1 ∧ x.sym.toList = tokL ts k ∧ k + 1 < j) from fun hh => by have := hh.1; have := hh.2.2; omega), if_neg (show ¬ (x.kind = 4 ∧ x.sym.toList = []) by omega)]
      rfl
    rw [h0, List.append_nil, List.append_nil]
    have hb := tokB_iff (ts := ts) (k := i) (by omega) x.sym.toList
    have hlow : lowR rs n = x.right := by rw [lowR_at hx, if_pos hk]
    by_cases ht : tokB ts i x.sym.toList = true
    · rw [if_pos ht]
      by_cases h : i + 1 < j
      · rw [if_pos (show x.kind = 2 ∧ x.sym.toList = tokL ts i ∧ i + 1 < j from ⟨hk, hb.1 ht, h⟩), List.flatMap_cons, List.flatMap_nil, List.append_nil, adds_one, hlow]
        exact solo_take
      · rw [if_neg (show ¬ (x.kind = 2 ∧ x.sym.toList = tokL ts i ∧ i + 1 < j) from fun hh => h hh.2.2), all_none (by omega)]
        rfl
    · rw [if_neg (show ¬ (x.kind = 2 ∧ x.sym.toList = tokL ts i ∧ i + 1 < j) from fun hh => ht (hb.2 hh.2.1)), if_neg ht]
      rfl
  · rw [if_neg (show ¬ (x.kind = 2 ∧ x.sym.toList = tokL ts i ∧ i + 1 < j) from fun hh => by have := hh.1; have := hh.2.2; omega), if_neg (show ¬ x.kind = 1 by omega), if_neg (show ¬ x.kind = 2 by omega), if_pos hk]
    have h0 : ((List.range' (i + 1) (j - (i + 1))).flatMap fun k => (if x.kind = 1 ∧ x.sym.toList = tokL ts k ∧ k + 1 < j then [(⟨n, i, k, k + 1, j, 2⟩ : App)] else []) ++ (if x.kind = 4 ∧ x.sym.toList = [] then [(⟨n, i, k, k, j, 2⟩ : App)] else [])) = [] := by
      refine (flatMap_congr' (g := fun _ => []) fun k _ => ?_).trans (flatMap_nil' _)
      rw [if_neg (show ¬ (x.kind = 1 ∧ x.sym.toList = tokL ts k ∧ k + 1 < j) from fun hh => by have := hh.1; have := hh.2.2; omega), if_neg (show ¬ (x.kind = 4 ∧ x.sym.toList = []) by omega)]
      rfl
    rw [h0, List.append_nil, List.nil_append]
    have hb := tokB_iff (ts := ts) (k := j - 1) (by omega) x.sym.toList
    have hlow : lowR rs n = x.left := by rw [lowR_at hx, if_neg (by omega)]
    by_cases ht : tokB ts (j - 1) x.sym.toList = true
    · rw [if_pos ht]
      by_cases h : i + 1 < j
      · rw [if_pos (show x.kind = 3 ∧ x.sym.toList = tokL ts (j - 1) ∧ i + 1 < j from ⟨hk, hb.1 ht, h⟩), List.flatMap_cons, List.flatMap_nil, List.append_nil, adds_one, hlow]
        exact solo_take
      · rw [if_neg (show ¬ (x.kind = 3 ∧ x.sym.toList = tokL ts (j - 1) ∧ i + 1 < j) from fun hh => h hh.2.2), all_none (by omega)]
        rfl
    · rw [if_neg (show ¬ (x.kind = 3 ∧ x.sym.toList = tokL ts (j - 1) ∧ i + 1 < j) from fun hh => ht (hb.2 hh.2.1)), if_neg ht]
      rfl
  · rw [if_neg (show ¬ (x.kind = 2 ∧ x.sym.toList = tokL ts i ∧ i + 1 < j) from fun hh => by have := hh.1; have := hh.2.2; omega), if_neg (show ¬ (x.kind = 3 ∧ x.sym.toList = tokL ts (j - 1) ∧ i + 1 < j) from fun hh => by have := hh.1; have := hh.2.2; omega), if_neg (show ¬ x.kind = 1 by omega), if_neg (show ¬ x.kind = 2 by omega), if_neg (show ¬ x.kind = 3 by omega), if_pos hk, List.nil_append, List.nil_append]
    have hlow : lowR rs n = x.left := by rw [lowR_at hx, if_neg (by omega)]
    have hhigh : highR rs n = x.right := by rw [highR_at hx, if_neg (by omega)]
    rw [List.flatMap_assoc, ← take_flatMap 2 (fun k => pairsR n i (leastR rs (allR rs ts i k) x.left) (leastR rs (allR rs ts k j) x.right)), ← take_flatMap 2]
    congr 1
    refine flatMap_congr' fun k hkr => ?_
    rw [if_neg (show ¬ (x.kind = 1 ∧ x.sym.toList = tokL ts k ∧ k + 1 < j) from fun hh => by have := hh.1; have := hh.2.2; omega), if_pos ⟨hk, hs⟩, List.nil_append, List.flatMap_cons, List.flatMap_nil, List.append_nil, adds_two, hlow, hhigh]
    exact pairs_two _ _ _ _
/-- what the program has of a rule behind some applications -/
def gotR (rs : List Rul) (ts : List ByteArray) (i n : Nat) (l : List App) : List Rd := ((ofApp n l).flatMap (addsR rs ts i)).take 2
theorem got_nil {rs : List Rul} {ts : List ByteArray} {i n : Nat} : gotR rs ts i n [] = [] := rfl
theorem got_len {rs : List Rul} {ts : List ByteArray} {i n : Nat} {l : List App} : (gotR rs ts i n l).length ≤ 2 := by unfold gotR; rw [List.length_take]; omega
theorem got_snoc {rs : List Rul} {ts : List ByteArray} {i n : Nat} {l : List App} {a : App} : gotR rs ts i n (l ++ [a]) = if a.rule = n then (gotR rs ts i n l ++ addsR rs ts i a).take 2 else gotR rs ts i n l := by
  unfold gotR
  rw [ofApp_append]
  by_cases h : a.rule = n
  · rw [if_pos h, List.flatMap_append, take_cut, show ofApp n [a] = [a] by simp [ofApp, h]]
    simp
  · rw [if_neg h, show ofApp n [a] = [] by simp [ofApp, h], List.append_nil]
theorem got_full {rs : List Rul} {ts : List ByteArray} {i n : Nat} {l : List App} {m : List Rd} (h : ¬ (gotR rs ts i n l).length < 2) : (gotR rs ts i n l ++ m).take 2 = gotR rs ts i n l := by
  have := got_len (rs := rs) (ts := ts) (i := i) (n := n) (l := l)
  rw [List.take_append, show 2 - (gotR rs ts i n l).length = 0 by omega, List.take_zero, List.append_nil, List.take_of_length_le this]
theorem cell_got {rs : List Rul} (hv : validB rs = true) {ts : List ByteArray} {i j : Nat} (hij : i < j) (hj : j ≤ ts.length) : cellR rs ts i j = baseR ts i j ++ (List.range rs.length).flatMap fun n => gotR rs ts i n (appsR rs ts i j) := by
  unfold cellR gotR
  congr 1
  exact flatMap_congr' fun n hn => (apps_rule hv hij hj (List.mem_range.1 hn)).symm
end Go.Proofs.Ytmhddlhlniajpaa
