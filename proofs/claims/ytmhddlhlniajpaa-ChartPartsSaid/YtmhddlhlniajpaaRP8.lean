/- What ChartParts says: plain. -/
import Derived.Test.YtmhddlhlniajpaaRE
import Derived.Test.YtmhddlhlniajpaaRP6
namespace Go.Proofs.Ytmhddlhlniajpaa
/-- the list with the part in place of the operand -/
def joinT (ts pt : List ByteArray) (k : Nat) : List ByteArray := ts.take k ++ pt ++ ts.drop (k + 1)
theorem join_len {ts pt : List ByteArray} {k : Nat} (hk : k < ts.length) : (joinT ts pt k).length + 1 = ts.length + pt.length := by
  unfold joinT
  simp only [List.length_append, List.length_take, List.length_drop]
  omega
theorem join_left {ts pt : List ByteArray} {k t : Nat} (hk : k < ts.length) (ht : t < k) : (joinT ts pt k)[t]? = ts[t]? := by
  unfold joinT
  rw [List.append_assoc, List.getElem?_append_left (by rw [List.length_take]; omega), List.getElem?_take, if_pos ht]
theorem join_mid {ts pt : List ByteArray} {k t : Nat} (hk : k < ts.length) (ht : t < pt.length) : (joinT ts pt k)[t + k]? = pt[t]? := by
  unfold joinT
  have hl : (ts.take k).length = k := by rw [List.length_take]; omega
  rw [List.append_assoc, List.getElem?_append_right (by omega), hl, Nat.add_sub_cancel, List.getElem?_append_left ht]
theorem join_right {ts pt : List ByteArray} {k t : Nat} (hk : k < ts.length) (hp : 0 < pt.length) (ht : k < t) : (joinT ts pt k)[t + (pt.length - 1)]? = ts[t]? := by
  unfold joinT
  have hl : (ts.take k ++ pt).length = k + pt.length := by rw [List.length_append, List.length_take]; omega
  rw [List.getElem?_append_right (by omega), hl, List.getElem?_drop]
  congr 1
  omega
theorem toks_join {ts pt : List ByteArray} {k : Nat} (ht : toksB ts = true) (hp : toksB pt = true) (h1 : ts.length ≤ 12) (h2 : pt.length ≤ 12) : toksB (joinT ts pt k) = true := by
  unfold toksB at *
  rw [Bool.and_eq_true] at *
  refine ⟨decide_eq_true ?_, ?_⟩
  · unfold joinT
    simp only [List.length_append, List.length_take, List.length_drop]
    omega
  · rw [List.all_eq_true]
    intro s hs
    unfold joinT at hs
    rcases List.mem_append.1 hs with hs | hs
    · rcases List.mem_append.1 hs with hs | hs
      · exact List.all_eq_true.1 ht.2 s (List.mem_of_mem_take hs)
      · exact List.all_eq_true.1 hp.2 s hs
    · exact List.all_eq_true.1 ht.2 s (List.mem_of_mem_drop hs)
theorem read_mem {rs : List Rul} {ts : List ByteArray} {x : Rd} (h : x ∈ readL rs ts) : (validB rs && toksB ts) = true ∧ x ∈ allR rs ts 0 ts.length := by
  unfold readL at h
  split at h
  · rename_i hv
    exact ⟨hv, List.mem_of_mem_take h⟩
  · simp at h
theorem read_some {rs : List Rul} {ts : List ByteArray} (hv : (validB rs && toksB ts) = true) {x : Rd} (h : x ∈ allR rs ts 0 ts.length) : 0 < (readL rs ts).length := by
  unfold readL
  rw [if_pos hv, List.length_take]
  have := List.length_pos_of_mem h
  omega
theorem parts_law {rs : List Rul} {ts pt : List ByteArray} {k : Nat} {x m0 : Rd} (h1 : ts.length ≤ 12) (h2 : pt.length ≤ 12) (hk : tokB ts k opndL = true) (hkl : k < ts.length) (hx : x ∈ readL rs ts) (hm0 : m0 ∈ readL rs pt) (hm : ∀ (n : Nat) u, rs[n]? = some u → u.left ≤ precI rs m0.rule ∧ u.right ≤ precI rs m0.rule) :
    okI rs (joinT ts pt k) = 0 ∧ 0 < (readL rs (joinT ts pt k)).length := by
  obtain ⟨hv, hx⟩ := read_mem hx
  obtain ⟨hv2, hm0⟩ := read_mem hm0
  rw [Bool.and_eq_true] at hv hv2
  have hp := mem_lt hm0
  have hj : (validB rs && toksB (joinT ts pt k)) = true := by rw [hv.1, toks_join hv.2 hv2.2 h1 h2]; rfl
  refine ⟨read_ok hj, ?_⟩
  obtain ⟨y, hy, he⟩ := moved (rs := rs) (ts := pt) (ts' := joinT ts pt k) k _ 0 pt.length (Nat.le_refl _) (fun t _ h => join_mid hkl h) m0 hm0
  rw [Nat.zero_add, show pt.length + k = k + 1 + (pt.length - 1) by omega] at hy
  obtain ⟨z, hz, _⟩ := replaced (rs := rs) hv.1 (ts := ts) (ts' := joinT ts pt k) (k := k) (d := pt.length - 1) hk hkl (fun t h => join_left hkl h) (fun t h => join_right hkl hp h) hy (by rw [he]; exact hm) _ 0 ts.length (Nat.le_refl _) (by omega) hkl (Nat.le_refl _) x hx
  refine read_some hj (x := z) ?_
  rw [show (joinT ts pt k).length = ts.length + (pt.length - 1) by have := join_len (pt := pt) hkl; omega]
  exact hz
/-- what the loop over the rules finds -/
def mostI : List Rul → Int
  | [] => 0
  | r :: rs => max (mostI rs) (max r.left r.right)
theorem most_le {rs : List Rul} {p : Int} (h : mostI rs ≤ p) : ∀ (n : Nat) u, rs[n]? = some u → u.left ≤ p ∧ u.right ≤ p := by
  induction rs with
  | nil => intro n u hu; simp at hu
  | cons r rs ih =>
    unfold mostI at h
    intro n u hu
    cases n with
    | zero => simp at hu; subst hu; omega
    | succ n => exact ih (by omega) n u (by simpa using hu)
theorem most_snoc {rs : List Rul} {k : Nat} {u : Rul} (hu : rs[k]? = some u) : mostI (rs.take (k + 1)) = max (mostI (rs.take k)) (max u.left u.right) := by
  induction rs generalizing k with
  | nil => simp at hu
  | cons r rs ih =>
    cases k with
    | zero => simp at hu; subst hu; simp [mostI]
    | succ k =>
      have := ih (k := k) (by simpa using hu)
      rw [List.take_succ_cons, List.take_succ_cons, mostI, mostI, this]
      omega
theorem leaf_most {rs : List Rul} (hv : validB rs = true) {r : Int} (h : r < 0) : ∀ (n : Nat) u, rs[n]? = some u → u.left ≤ precI rs r ∧ u.right ≤ precI rs r := by
  intro n u hu
  have ho := valid_own hv hu
  unfold ownB at ho
  simp only [Bool.and_eq_true, inR, decide_eq_true_eq] at ho
  unfold precI
  rw [if_pos h]
  omega
end Go.Proofs.Ytmhddlhlniajpaa
