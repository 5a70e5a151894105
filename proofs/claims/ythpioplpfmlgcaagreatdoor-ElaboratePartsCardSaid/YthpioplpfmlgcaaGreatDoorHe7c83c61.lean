/- Errors of meanings; the slots of a tree with one operand: plain. -/
import Derived.Test.YthpioplpfmlgcaaGreatDoorHd2b7351f
import Derived.Test.YthpioplpfmlgcaaGreatDoorH5f6aca22
namespace Go.Proofs.YthpioplpfmlgcaaGreatDoor.El
open Go.Proofs.YthpioplpfmlgcaaGreatDoor.At
open Go.Proofs.YthpioplpfmlgcaaGreatDoor.Ch
open Go.Proofs.YthpioplpfmlgcaaGreatDoor.Sp
open Go.Proofs.YthpioplpfmlgcaaGreatDoor.Sy
open Go.RowKit
/-- a failure of a list -/
def badE {α : Type} (m : Mea α) : Prop := ∀ e p, m = .bad e p → e = 14 ∨ e = 15
theorem badE.ok {α : Type} (a : α) : badE (Mea.ok a) := fun e p h => by cases h
theorem badE.then_ {α β : Type} {m : Mea α} {f : α → Mea β} (h : badE m) (hf : ∀ a, m = .ok a → badE (f a)) : badE (m.then_ f) := by
  intro e p he
  cases m with
  | bad e' p' =>
    have he2 : (Mea.bad e' p' : Mea β) = .bad e p := he
    injection he2 with h1 h2
    rw [← h1]
    exact h e' p' rfl
  | ok a => exact hf a rfl e p he
theorem slots_err {M : List Tre → List Int → Nat → Mea Trm} {path : List Int} : ∀ (ks : List Tre) (s b : Nat), (∀ d ∈ ks, ∀ p k, badE (M d.kids p k)) → badE (slotsF M path ks s b)
  | [], _, _, _ => by rw [slotsF]; exact badE.ok _
  | n :: ns, s, b, h => by
    rw [slotsF]
    exact (h n List.mem_cons_self _ _).then_ fun t _ => (slots_err ns _ _ fun d hd => h d (List.mem_cons_of_mem _ hd)).then_ fun ts _ => badE.ok _
theorem opnd_err {M : List Tre → List Int → Nat → Mea Trm} {n : Tre} {path : List Int} (h : ∀ d ∈ n.kids, ∀ p k, badE (M d.kids p k)) : badE (opndF M n path) := by
  unfold opndF
  split
  · exact badE.ok _
  split
  · exact badE.ok _
  split
  · exact badE.ok _
  · refine badE.then_ ?_ fun ts _ => badE.ok _
    cases hk : n.kids with
    | nil => exact badE.ok _
    | cons d ks =>
      rw [hk] at h
      dsimp only
      split
      · exact slots_err ks 1 0 fun e he => h e (List.mem_cons_of_mem _ he)
      · exact slots_err (d :: ks) 0 0 h
theorem scr_err {rs : List Rul} {M : List Tre → List Int → Nat → Mea Trm} {n : Tre} {path : List Int} {p : Bool} (h : ∀ d ∈ n.kids, ∀ p k, badE (M d.kids p k)) : badE (scrF rs M n path p) := by
  unfold scrF
  split
  · exact badE.ok _
  · exact (slots_err _ _ _ fun d hd => h d (List.mem_of_mem_tail hd)).then_ fun ts _ => badE.ok _
theorem partsF_err {rs : List Rul} {M : List Tre → List Int → Nat → Mea Trm} {path : List Int} {kd : Nat → Int} {k : Nat} : ∀ (ns : List Tre) (ts : List ByteArray) (i : Nat), (∀ n ∈ ns, ∀ d ∈ n.kids, ∀ p k, badE (M d.kids p k)) → badE (partsF rs M path kd k ns ts i)
  | [], ts, i, _ => by
    have : partsF rs M path kd k [] ts i = .ok [] := by cases ts <;> simp [partsF]
    rw [this]; exact badE.ok _
  | n :: ns, [], i, _ => by
    have : partsF rs M path kd k (n :: ns) [] i = .ok [] := by simp [partsF]
    rw [this]; exact badE.ok _
  | n :: ns, t :: ts, i, h => by
    rw [partsF]
    refine badE.then_ ?_ fun x _ => (partsF_err ns ts (i + 1) fun m hm => h m (List.mem_cons_of_mem _ hm)).then_ fun ps _ => badE.ok _
    split
    · exact opnd_err (h n List.mem_cons_self)
    · exact scr_err (h n List.mem_cons_self)
theorem mem_count {l : List Tre} {t : Tre} (h : t ∈ l) : countT t ≤ countL l := by
  obtain ⟨i, hi⟩ := List.getElem?_of_mem h
  have h6 := count_take hi
  have h7 := countL_app (l.take (i + 1)) (l.drop (i + 1))
  rw [List.take_append_drop] at h7
  omega
theorem list_err (rs : List Rul) : ∀ (f : Nat) (items : List Tre) (path : List Int) (k : Nat), countL items < f → badE (listM rs f items path k)
  | 0, _, _, _, h => absurd h (by omega)
  | f + 1, items, path, k, h => by
    rw [listM]
    unfold listF
    split
    · intro e p he; injection he with h1 h2; exact .inr h1.symm
    split
    · intro e p he; injection he with h1 h2; exact .inr h1.symm
    split
    · intro e p he; injection he with h1 h2; exact .inr h1.symm
    · refine (partsF_err _ _ _ fun n hn d hd p j => list_err rs f d.kids p j ?_).then_ fun ps _ => badE.ok _
      have h1 := mem_count hn
      have h2 := mem_count hd
      have h3 := count_drop items k
      have h4 := count_kids n
      have h5 := count_kids d
      omega
    · intro e p he; injection he with h1 h2; exact .inl h1.symm
/-- a failure whose position is not too long -/
def badN {α : Type} (N : Nat) (m : Mea α) : Prop := ∀ e p, m = .bad e p → p.length ≤ N
theorem badN.ok {α : Type} (N : Nat) (a : α) : badN N (Mea.ok a) := fun e p h => by cases h
theorem badN.then_ {α β : Type} {N : Nat} {m : Mea α} {f : α → Mea β} (h : badN N m) (hf : ∀ a, m = .ok a → badN N (f a)) : badN N (m.then_ f) := by
  intro e p he
  cases m with
  | bad e' p' =>
    have he2 : (Mea.bad e' p' : Mea β) = .bad e p := he
    injection he2 with h1 h2
    rw [← h2]
    exact h e' p' rfl
  | ok a => exact hf a rfl e p he
theorem slots_plen {M : List Tre → List Int → Nat → Mea Trm} {path : List Int} {N : Nat} : ∀ (ks : List Tre) (s b : Nat), (∀ d ∈ ks, ∀ (i : Int) k, badN N (M d.kids (path ++ [i]) k)) → badN N (slotsF M path ks s b)
  | [], _, _, _ => by rw [slotsF]; exact badN.ok _ _
  | n :: ns, s, b, h => by
    rw [slotsF]
    exact (h n List.mem_cons_self _ _).then_ fun t _ => (slots_plen ns _ _ fun d hd => h d (List.mem_cons_of_mem _ hd)).then_ fun ts _ => badN.ok _ _
theorem opnd_plen {M : List Tre → List Int → Nat → Mea Trm} {n : Tre} {path : List Int} {N : Nat} (h : ∀ d ∈ n.kids, ∀ (i : Int) k, badN N (M d.kids (path ++ [i]) k)) : badN N (opndF M n path) := by
  unfold opndF
  split
  · exact badN.ok _ _
  split
  · exact badN.ok _ _
  split
  · exact badN.ok _ _
  · refine badN.then_ ?_ fun ts _ => badN.ok _ _
    cases hk : n.kids with
    | nil => exact badN.ok _ _
    | cons d ks =>
      rw [hk] at h
      dsimp only
      split
      · exact slots_plen ks 1 0 fun e he => h e (List.mem_cons_of_mem _ he)
      · exact slots_plen (d :: ks) 0 0 h
theorem scr_plen {rs : List Rul} {M : List Tre → List Int → Nat → Mea Trm} {n : Tre} {path : List Int} {p : Bool} {N : Nat} (h : ∀ d ∈ n.kids, ∀ (i : Int) k, badN N (M d.kids (path ++ [i]) k)) : badN N (scrF rs M n path p) := by
  unfold scrF
  split
  · exact badN.ok _ _
  · exact (slots_plen _ _ _ fun d hd => h d (List.mem_of_mem_tail hd)).then_ fun ts _ => badN.ok _ _
theorem partsF_plen {rs : List Rul} {M : List Tre → List Int → Nat → Mea Trm} {path : List Int} {kd : Nat → Int} {k N : Nat} : ∀ (ns : List Tre) (ts : List ByteArray) (i : Nat), (∀ n ∈ ns, ∀ d ∈ n.kids, ∀ (j i : Int) k, badN N (M d.kids (path ++ [j] ++ [i]) k)) → badN N (partsF rs M path kd k ns ts i)
  | [], ts, i, _ => by
    have : partsF rs M path kd k [] ts i = .ok [] := by cases ts <;> simp [partsF]
    rw [this]; exact badN.ok _ _
  | n :: ns, [], i, _ => by
    have : partsF rs M path kd k (n :: ns) [] i = .ok [] := by simp [partsF]
    rw [this]; exact badN.ok _ _
  | n :: ns, t :: ts, i, h => by
    rw [partsF]
    refine badN.then_ ?_ fun x _ => (partsF_plen ns ts (i + 1) fun m hm => h m (List.mem_cons_of_mem _ hm)).then_ fun ps _ => badN.ok _ _
    split
    · exact opnd_plen fun d hd => h n List.mem_cons_self d hd _
    · exact scr_plen fun d hd => h n List.mem_cons_self d hd _
theorem list_plen (rs : List Rul) : ∀ (f : Nat) (items : List Tre) (path : List Int) (k : Nat), badN (path.length + 2 * f + 1) (listM rs f items path k)
  | 0, items, path, k => by rw [listM]; intro e p he; injection he with h1 h2; rw [← h2]; omega
  | f + 1, items, path, k => by
    rw [listM]
    unfold listF
    split
    · intro e p he; injection he with h1 h2; rw [← h2, List.length_append, List.length_singleton]; omega
    split
    · intro e p he; injection he with h1 h2; rw [← h2, List.length_append, List.length_singleton]; omega
    split
    · intro e p he; injection he with h1 h2; rw [← h2, List.length_append, List.length_singleton]; omega
    · refine (partsF_plen _ _ _ fun n hn d hd j i k' => ?_).then_ fun ps _ => badN.ok _ _
      have h := list_plen rs f d.kids (path ++ [j] ++ [i]) k'
      intro e p he
      have := h e p he
      rw [List.length_append, List.length_append, List.length_singleton, List.length_singleton] at this
      omega
    · intro e p he; injection he with h1 h2; rw [← h2, List.length_append, List.length_singleton]; omega
/-- the meaning of a tree with one operand with slots -/
theorem one_tree {rs : List Rul} (hv : validB rs = true) {f : Nat} {n : Tre} (ht : toksN rs [n] = .inl [hashS]) (h2 : n.kind ≠ 2) (h3 : n.kind ≠ 3) (h4 : n.kind ≠ 4) (hk : n.kids ≠ []) : listM rs (f + 1) [n] [] 0 = (restF (listM rs f) n [0] 0).then_ fun ts => .ok (.mk 4 (shapeN n).1 ⟨#[]⟩ (shapeN n).2 ts) := by
  rw [one_list hv ht, show ([] : List Int) ++ [0] = [0] from rfl, opnd_rest h2 h3 h4 hk]
  cases restF (listM rs f) n [0] 0 <;> rfl
theorem slot_shift {rs : List Rul} {f : Nat} {items : List Tre} {s : Nat} : listM rs f items ([0] ++ [(s : Int)]) 0 = (listM rs f items [] 0).shift [0, (s : Int)] := by
  have := list_shift rs [0, (s : Int)] f items [] 0
  rw [List.append_nil] at this
  exact this
theorem SoFar.get {tot : Mea (List Trm)} {xs us : List Trm} {m : Mea Trm} {r : Mea (List Trm)} {t : Trm} (h : SoFar tot xs (m.then_ fun t => r.then_ fun ts => .ok (t :: ts))) (hm : m = .ok t) (ht : tot = .ok us) : us[xs.length]? = some t := by
  unfold SoFar at h
  rw [ht, hm] at h
  cases hr : r with
  | bad e p => rw [hr] at h; cases h
  | ok ts =>
    rw [hr] at h
    simp only [Mea.then_] at h
    injection h with h
    rw [h, List.getElem?_append_right (Nat.le_refl _), Nat.sub_self]
    rfl
end Go.Proofs.YthpioplpfmlgcaaGreatDoor.El
