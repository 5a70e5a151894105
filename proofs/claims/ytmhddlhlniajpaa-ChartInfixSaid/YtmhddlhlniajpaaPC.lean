/- The numbers of readings: plain. -/
import Derived.Test.YtmhddlhlniajpaaRP9
import Derived.Maps.Range
namespace Go.Proofs.Ytmhddlhlniajpaa
open Go.RowKit
/-- the readings that an application adds, all of them -/
def fullA (rs : List Rul) (ts : List ByteArray) (i : Nat) (a : App) : List Rd :=
  if a.kids = 1 then soloR a.rule i (leastR rs (allR rs ts a.frm a.left) (lowR rs a.rule)) else pairsR a.rule i (leastR rs (allR rs ts a.frm a.left) (lowR rs a.rule)) (leastR rs (allR rs ts a.right a.to) (highR rs a.rule))
def cntA (rs : List Rul) (ts : List ByteArray) (a : App) : Nat :=
  if a.kids = 1 then (leastR rs (allR rs ts a.frm a.left) (lowR rs a.rule)).length else (leastR rs (allR rs ts a.frm a.left) (lowR rs a.rule)).length * (leastR rs (allR rs ts a.right a.to) (highR rs a.rule)).length
section
variable {rs : List Rul} {ts : List ByteArray} {i j n : Nat} {a : App} {done : List App}
theorem full_len : (fullA rs ts i a).length = cntA rs ts a := by
  unfold fullA cntA
  split
  · unfold soloR; rw [List.length_map]
  · exact pairs_len
theorem full_rule {x : Rd} (h : x ∈ fullA rs ts i a) : x.rule = a.rule := by
  unfold fullA at h
  split at h
  · obtain ⟨y, _, rfl⟩ := mem_solo.1 h; rfl
  · obtain ⟨y, z, _, _, rfl⟩ := mem_pairs.1 h; rfl
theorem full_one {c d : Nat} : fullA rs ts i ⟨n, c, d, 0, 0, 1⟩ = soloR n i (leastR rs (allR rs ts c d) (lowR rs n)) := rfl
theorem full_two {c d e f : Nat} : fullA rs ts i ⟨n, c, d, e, f, 2⟩ = pairsR n i (leastR rs (allR rs ts c d) (lowR rs n)) (leastR rs (allR rs ts e f) (highR rs n)) := rfl
/-- of a rule, what the applications add is what the reference makes -/
theorem apps_full (hv : validB rs = true) (hij : i < j) (hj : j ≤ ts.length) (hn : n < rs.length) : (ofApp n (appsR rs ts i j)).flatMap (fullA rs ts i) = ofRule rs ts (allR rs ts) i j n := by
  obtain ⟨x, hx⟩ : ∃ x, rs[n]? = some x := ⟨_, List.getElem?_eq_getElem hn⟩
  have hu := valid_uniq hv
  unfold appsR
  rw [ofApp_append, ofApp_append, ofApp_flatMap, ofApp_pre hu hx, ofApp_post hu hx]
  have hmid : ((List.range' (i + 1) (j - (i + 1))).flatMap fun k => ofApp n (midA rs ts i j k)) = (List.range' (i + 1) (j - (i + 1))).flatMap fun k => (if x.kind = 1 ∧ x.sym.toList = tokL ts k ∧ k + 1 < j then [(⟨n, i, k, k + 1, j, 2⟩ : App)] else []) ++ (if x.kind = 4 ∧ x.sym.toList = [] then [(⟨n, i, k, k, j, 2⟩ : App)] else []) := by
    refine flatMap_congr' fun k _ => ?_
    unfold midA
    rw [ofApp_append, ofApp_in hu hx, ofApp_jux hu hx]
  rw [hmid]
  clear hmid
  unfold ofRule
  rw [hx]
  dsimp only
  rcases own_kind (valid_own hv hx) with hk | hk | hk | ⟨hk, hs⟩
  · rw [if_neg (show ¬ (x.kind = 2 ∧ x.sym.toList = tokL ts i ∧ i + 1 < j) from fun hh => by have := hh.1; have := hh.2.2; omega), if_neg (show ¬ (x.kind = 3 ∧ x.sym.toList = tokL ts (j - 1) ∧ i + 1 < j) from fun hh => by have := hh.1; have := hh.2.2; omega), if_pos hk, List.nil_append, List.nil_append]
    have hlow : lowR rs n = x.left := by rw [lowR_at hx, if_neg (by omega)]
    have hhigh : highR rs n = x.right := by rw [highR_at hx, if_neg (by omega)]
    rw [List.flatMap_assoc]
    have hr : List.range' (i + 1) (j - (i + 1)) = List.range' (i + 1) (j - 1 - (i + 1)) ++ (if i + 1 < j then [j - 1] else []) := by
      by_cases h : i + 1 < j
      · rw [if_pos h, show j - (i + 1) = (j - 1 - (i + 1)) + 1 by omega, List.range'_concat]
        congr 2
        omega
      · rw [if_neg h, show j - (i + 1) = 0 by omega, show j - 1 - (i + 1) = 0 by omega]
        rfl
    rw [hr, List.flatMap_append]
    have h0 : ((if i + 1 < j then [j - 1] else []).flatMap fun k => ((if x.kind = 1 ∧ x.sym.toList = tokL ts k ∧ k + 1 < j then [(⟨n, i, k, k + 1, j, 2⟩ : App)] else []) ++ (if x.kind = 4 ∧ x.sym.toList = [] then [(⟨n, i, k, k, j, 2⟩ : App)] else [])).flatMap (fullA rs ts i)) = [] := by
      by_cases h : i + 1 < j
      · rw [if_pos h]
        simp only [List.flatMap_cons, List.flatMap_nil, List.append_nil]
        rw [if_neg (show ¬ (x.kind = 1 ∧ x.sym.toList = tokL ts (j - 1) ∧ j - 1 + 1 < j) from fun hh => by have := hh.1; have := hh.2.2; omega), if_neg (show ¬ (x.kind = 4 ∧ x.sym.toList = []) by omega)]
        rfl
      · rw [if_neg h]
        rfl
    rw [h0, List.append_nil]
    refine flatMap_congr' fun k hkr => ?_
    have hkm := mem_range1 hkr
    have hb := tokB_iff (ts := ts) (k := k) (by omega) x.sym.toList
    rw [if_neg (show ¬ (x.kind = 4 ∧ x.sym.toList = []) by omega), List.append_nil]
    by_cases ht : tokB ts k x.sym.toList = true
    · rw [if_pos (show x.kind = 1 ∧ x.sym.toList = tokL ts k ∧ k + 1 < j from ⟨hk, hb.1 ht, by omega⟩), if_pos ht, List.flatMap_cons, List.flatMap_nil, List.append_nil, full_two, hlow, hhigh]
    · rw [if_neg (show ¬ (x.kind = 1 ∧ x.sym.toList = tokL ts k ∧ k + 1 < j) from fun hh => ht (hb.2 hh.2.1)), if_neg ht]
      rfl
  · rw [if_neg (show ¬ (x.kind = 3 ∧ x.sym.toList = tokL ts (j - 1) ∧ i + 1 < j) from fun hh => by have := hh.1; have := hh.2.2; omega), if_neg (show ¬ x.kind = 1 by omega), if_pos hk]
    have h0 : ((List.range' (i + 1) (j - (i + 1))).flatMap fun k => (if x.kind = 1 ∧ x.sym.toList = tokL ts k ∧ k + 1 < j then [(⟨n, i, k, k + 1, j, 2⟩ : App)] else []) ++ (if x.kind = 4 ∧ x.sym.toList = [] then [(⟨n, i, k, k, j, 2⟩ : App)] else [])) = [] := by
      refine (flatMap_congr' (g := fun _ => []) fun k _ => ?_).trans (flatMap_nil' _)
      rw [if_neg (show ¬ (x.kind = 1 ∧ x.sym.toList = tokL ts k ∧ k + 1 < j) from fun hh => by have := hh.1; have := hh.2.2; omega), if_neg (show ¬ (x.kind = 4 ∧ x.sym.toList = []) by omega)]
      rfl
    rw [h0, List.append_nil, List.append_nil]
    have hb := tokB_iff (ts := ts) (k := i) (by omega) x.sym.toList
    have hlow : lowR rs n = x.right := by rw [lowR_at hx, if_pos hk]
    by_cases ht : tokB ts i x.sym.toList = true
    · rw [if_pos ht]
      by_cases h : i + 1 < j
      · rw [if_pos (show x.kind = 2 ∧ x.sym.toList = tokL ts i ∧ i + 1 < j from ⟨hk, hb.1 ht, h⟩), List.flatMap_cons, List.flatMap_nil, List.append_nil, full_one, hlow]
      · rw [if_neg (show ¬ (x.kind = 2 ∧ x.sym.toList = tokL ts i ∧ i + 1 < j) from fun hh => h hh.2.2), all_none (by omega)]
        rfl
    · rw [if_neg (show ¬ (x.kind = 2 ∧ x.sym.toList = tokL ts i ∧ i + 1 < j) from fun hh => ht (hb.2 hh.2.1)), if_neg ht]
      rfl
  · rw [if_neg (show ¬ (x.kind = 2 ∧ x.sym.toList = tokL ts i ∧ i + 1 < j) from fun hh => by have := hh.1; have := hh.2.2; omega), if_neg (show ¬ x.kind = 1 by omega), if_neg (show ¬ x.kind = 2 by omega), if_pos hk]
    have h0 : ((List.range' (i + 1) (j - (i + 1))).flatMap fun k => (if x.kind = 1 ∧ x.sym.toList = tokL ts k ∧ k + 1 < j then [(⟨n, i, k, k + 1, j, 2⟩ : App)] else []) ++ (if x.kind = 4 ∧ x.sym.toList = [] then [(⟨n, i, k, k, j, 2⟩ : App)] else [])) = [] := by
      refine (flatMap_congr' (g := fun _ => []) fun k _ => ?_).trans (flatMap_nil' _)
      rw [if_neg (show ¬ (x.kind = 1 ∧ x.sym.toList = tokL ts k ∧ k + 1 < j) from fun hh => by have := hh.1; have := hh.2.2; omega), if_neg (show ¬ (x.kind = 4 ∧ x.sym.toList = []) by omega)]
      rfl
    rw [h0, List.append_nil, List.nil_append]
    have hb := tokB_iff (ts := ts) (k := j - 1) (by omega) x.sym.toList
    have hlow : lowR rs n = x.left := by rw [lowR_at hx, if_neg (by omega)]
    by_cases ht : tokB ts (j - 1) x.sym.toList = true
    · rw [if_pos ht]
      by_cases h : i + 1 < j
      · rw [if_pos (show x.kind = 3 ∧ x.sym.toList = tokL ts (j - 1) ∧ i + 1 < j from ⟨hk, hb.1 ht, h⟩), List.flatMap_cons, List.flatMap_nil, List.append_nil, full_one, hlow]
      · rw [if_neg (show ¬ (x.kind = 3 ∧ x.sym.toList = tokL ts (j - 1) ∧ i + 1 < j) from fun hh => h hh.2.2), all_none (by omega)]
        rfl
    · rw [if_neg (show ¬ (x.kind = 3 ∧ x.sym.toList = tokL ts (j - 1) ∧ i + 1 < j) from fun hh => ht (hb.2 hh.2.1)), if_neg ht]
      rfl
  · rw [if_neg (show ¬ (x.kind = 2 ∧ x.sym.toList = tokL ts i ∧ i + 1 < j) from fun hh => by have := hh.1; have := hh.2.2; omega), if_neg (show ¬ (x.kind = 3 ∧ x.sym.toList = tokL ts (j - 1) ∧ i + 1 < j) from fun hh => by have := hh.1; have := hh.2.2; omega), if_neg (show ¬ x.kind = 1 by omega), if_neg (show ¬ x.kind = 2 by omega), if_neg (show ¬ x.kind = 3 by omega), if_pos hk, List.nil_append, List.nil_append]
    have hlow : lowR rs n = x.left := by rw [lowR_at hx, if_neg (by omega)]
    have hhigh : highR rs n = x.right := by rw [highR_at hx, if_neg (by omega)]
    rw [List.flatMap_assoc]
    refine flatMap_congr' fun k hkr => ?_
    rw [if_neg (show ¬ (x.kind = 1 ∧ x.sym.toList = tokL ts k ∧ k + 1 < j) from fun hh => by have := hh.1; have := hh.2.2; omega), if_pos ⟨hk, hs⟩, List.nil_append, List.flatMap_cons, List.flatMap_nil, List.append_nil, full_two, hlow, hhigh]
theorem range_one (P : Rd → Bool) (g g' : Nat → List Rd) (l : List Rd) (c : Nat) (h : ∀ n, g' n = if n = c then l ++ g n else g n) : ∀ N, c < N → (((List.range N).flatMap g').filter P).length = (l.filter P).length + (((List.range N).flatMap g).filter P).length := by
  intro N
  induction N with
  | zero => intro h; omega
  | succ N ih =>
    intro hc
    rw [List.range_succ, List.flatMap_append, List.flatMap_append, List.filter_append, List.filter_append, List.length_append, List.length_append]
    simp only [List.flatMap_cons, List.flatMap_nil, List.append_nil]
    by_cases e : N = c
    · subst e
      have e1 : (List.range N).flatMap g' = (List.range N).flatMap g := flatMap_congr' fun n hn => by
        have := List.mem_range.1 hn
        rw [h n, if_neg (by omega)]
      rw [e1, h N, if_pos rfl, List.filter_append, List.length_append]
      omega
    · rw [h N, if_neg e, ih (by omega)]
      omega
theorem cnt_split (P : Rd → Bool) (f : App → List Rd) (N : Nat) : ∀ l : List App, (∀ a ∈ l, a.rule < N) → ((l.flatMap f).filter P).length = (((List.range N).flatMap fun n => (ofApp n l).flatMap f).filter P).length := by
  intro l
  induction l with
  | nil =>
    intro _
    rw [show (fun n => (ofApp n []).flatMap f) = fun _ => ([] : List Rd) from rfl, flatMap_nil']
    rfl
  | cons a l ih =>
    intro h
    rw [List.flatMap_cons, List.filter_append, List.length_append, ih fun b hb => h b (List.mem_cons_of_mem _ hb)]
    refine (range_one P _ _ (f a) a.rule (fun n => ?_) N (h a List.mem_cons_self)).symm
    by_cases e : n = a.rule
    · subst e
      rw [if_pos rfl, show ofApp a.rule (a :: l) = a :: ofApp a.rule l by simp [ofApp], List.flatMap_cons]
    · rw [if_neg e, show ofApp n (a :: l) = ofApp n l by simp [ofApp, show ¬ a.rule = n from fun h => e h.symm]]
/-- what has been counted behind some applications -/
def cellL (rs : List Rul) (ts : List ByteArray) (i j : Nat) (done : List App) : List Rd := baseR ts i j ++ done.flatMap (fullA rs ts i)
def atP (rs : List Rul) (l : List Rd) (p : Int) : Nat := (l.filter fun x => decide (precI rs x.rule = p)).length
theorem cell_all (hv : validB rs = true) (hij : i < j) (hj : j ≤ ts.length) (hr : ∀ a ∈ appsR rs ts i j, a.rule < rs.length) (P : Rd → Bool) : ((cellL rs ts i j (appsR rs ts i j)).filter P).length = ((allR rs ts i j).filter P).length := by
  unfold cellL
  rw [all_eq hij]
  unfold bodyR
  rw [List.filter_append, List.filter_append, List.length_append, List.length_append, cnt_split P _ _ _ hr]
  congr 3
  exact flatMap_congr' fun n hn => apps_full hv hij hj (List.mem_range.1 hn)
theorem least_cell (hv : validB rs = true) (hij : i < j) (hj : j ≤ ts.length) (hr : ∀ a ∈ appsR rs ts i j, a.rule < rs.length) (p : Int) : (leastR rs (cellL rs ts i j (appsR rs ts i j)) p).length = (leastR rs (allR rs ts i j) p).length := cell_all hv hij hj hr _
theorem atP_snoc {p : Int} : atP rs (cellL rs ts i j (done ++ [a])) p = atP rs (cellL rs ts i j done) p + if precI rs a.rule = p then cntA rs ts a else 0 := by
  unfold atP cellL
  rw [List.flatMap_append, ← List.append_assoc, List.filter_append, List.length_append]
  congr 1
  simp only [List.flatMap_cons, List.flatMap_nil, List.append_nil]
  by_cases e : precI rs a.rule = p
  · rw [if_pos e, List.filter_eq_self.2 fun x hx => by rw [full_rule hx]; exact decide_eq_true e]
    exact full_len
  · rw [if_neg e, List.filter_eq_nil_iff.2 fun x hx => by rw [full_rule hx]; simpa using e]
    rfl
theorem atP_base {p : Int} : atP rs (cellL rs ts i j []) p = if (j = i + 1 ∧ tokB ts i opndL = true) ∧ p = 101 then 1 else 0 := by
  unfold atP cellL baseR
  rw [List.flatMap_nil, List.append_nil]
  by_cases h : j = i + 1 ∧ tokB ts i opndL = true
  · rw [if_pos h]
    have e1 : precI rs (-1) = 101 := by unfold precI; rw [if_pos (by omega)]
    by_cases e : p = 101
    · subst e
      rw [if_pos ⟨h, rfl⟩, List.filter_cons, if_pos (by show decide (precI rs (-1) = 101) = true; rw [e1]; decide)]
      rfl
    · rw [if_neg (fun hh => e hh.2), List.filter_cons, if_neg (by show ¬ decide (precI rs (-1) = p) = true; rw [e1]; simpa using fun h => e h.symm)]
      rfl
  · rw [if_neg h, if_neg (fun hh => h hh.1)]
    rfl
/-- of the readings whose precedences have come and are great enough -/
def metN (rs : List Rul) (l : List Rd) (least : Int) (left : Int → Bool) : Nat := (l.filter fun x => decide (least ≤ precI rs x.rule) && !left (precI rs x.rule)).length
theorem met_step {l : List Rd} {least : Int} {left : Int → Bool} {p : Int} (hp : left p = true) : metN rs l least (fun q => left q && !(decide (q = p))) = metN rs l least left + if least ≤ p then atP rs l p else 0 := by
  unfold metN atP
  induction l with
  | nil => simp
  | cons x l ih =>
    simp only [List.filter_cons]
    by_cases e : precI rs x.rule = p
    · by_cases h : least ≤ p
      · simp only [e, hp, h, decide_true, Bool.and_true, Bool.not_true, Bool.and_false, Bool.false_eq_true, if_false, if_true, Bool.not_false, List.length_cons] at ih ⊢
        omega
      · simp only [e, hp, h, decide_true, decide_false, Bool.and_true, Bool.not_true, Bool.and_false, Bool.false_eq_true, if_false, if_true, Bool.not_false, List.length_cons] at ih ⊢
        omega
    · simp only [e, decide_false, Bool.not_false, Bool.and_true, Bool.false_eq_true, if_false] at ih ⊢
      by_cases h : (decide (least ≤ precI rs x.rule) && !left (precI rs x.rule)) = true
      · rw [if_pos h, if_pos h, List.length_cons, List.length_cons]
        omega
      · rw [if_neg h, if_neg h]
        omega
theorem met_none {l : List Rd} {least : Int} {left : Int → Bool} (h : ∀ p, 0 < atP rs l p → left p = true) : metN rs l least left = 0 := by
  unfold metN
  rw [List.filter_eq_nil_iff.2]
  · rfl
  · intro x hx
    rw [h (precI rs x.rule)]
    · simp
    · unfold atP
      exact List.length_pos_of_mem (List.mem_filter.2 ⟨hx, by simp⟩)
theorem met_all {l : List Rd} {least : Int} {left : Int → Bool} (h : ∀ p, left p = false) : metN rs l least left = (leastR rs l least).length := by
  unfold metN leastR
  congr 1
  refine List.filter_congr fun x _ => ?_
  rw [h]
  simp
end
end Go.Proofs.Ytmhddlhlniajpaa
