/- Reading a spoken text, plain: what the reference's reader gives; it gives the term back from its text; so different valid terms have different texts. -/
import Derived.Test.YtpokelkneblafaaGreatDoorSM
namespace Go.Proofs.YtpokelkneblafaaGreatDoor
/-- the parts, each behind a space -/
def lsP (ps : List (List UInt8)) : List UInt8 := (ps.map (fun p => 32 :: p)).flatten
theorem lsP_nil : lsP [] = [] := rfl
theorem lsP_cons (p : List UInt8) (ps : List (List UInt8)) : lsP (p :: ps) = 32 :: (p ++ lsP ps) := by simp [lsP]
theorem lsP_app (a b : List (List UInt8)) : lsP (a ++ b) = lsP a ++ lsP b := by simp [lsP]
theorem join_ls (p : List UInt8) (ps : List (List UInt8)) : Lib.join (p :: ps) [32] = p ++ lsP ps := by
  rw [Lib.join_cons]
  simp [Lib.joinTail, lsP]
/-- the end, or a space -/
def Cl (r : List UInt8) : Prop := r = [] ∨ ∃ r', r = 32 :: r'
theorem cl_ls {ps : List (List UInt8)} {r : List UInt8} (h : Cl r) : Cl (lsP ps ++ r) := by
  cases ps with
  | nil => exact h
  | cons p ps => exact .inr ⟨_, by rw [lsP_cons]; rfl⟩
/-- the next word, and what follows it -/
def wordL (s : List UInt8) : List UInt8 × List UInt8 := (s.takeWhile (fun c => c != 32), (s.dropWhile (fun c => c != 32)).tail)
theorem word_cl {p r : List UInt8} (hp : (32 : UInt8) ∉ p) (h : Cl r) : wordL (p ++ r) = (p, r.tail) := by
  unfold wordL
  induction p with
  | nil =>
    rcases h with rfl | ⟨r', rfl⟩
    · rfl
    · simp
  | cons x p ih =>
    rw [List.mem_cons, not_or] at hp
    have hx : (x != 32) = true := by rw [bne_iff_ne]; exact fun e => hp.1 e.symm
    have h2 := ih hp.2
    rw [Prod.mk.injEq] at h2 ⊢
    simp only [List.cons_append, List.takeWhile_cons, List.dropWhile_cons, hx, if_true]
    exact ⟨by rw [h2.1], h2.2⟩
/-- the word behind a space -/
theorem word_ls {p : List UInt8} {ps : List (List UInt8)} {r : List UInt8} (hp : (32 : UInt8) ∉ p) (h : Cl r) : wordL (lsP (p :: ps) ++ r).tail = (p, (lsP ps ++ r).tail) := by
  rw [lsP_cons]
  show wordL ((p ++ lsP ps) ++ r) = _
  rw [List.append_assoc]
  exact word_cl hp (cl_ls h)
/-- the number of a word of at most three digits -/
def numI (w : List UInt8) : Int := (w.take 3).foldl (fun n c => 10 * n + (c.toNat : Int) - 48) 0
def numN (w : List UInt8) : Nat := (max 0 (numI w)).toNat
def upL (w : List UInt8) : List UInt8 := match w with
  | [c] => if 97 ≤ c.toNat ∧ c.toNat ≤ 122 then [c - 32] else []
  | _ => []
/-- the identifier whose spoken name begins with a word -/
def nameR (w s : List UInt8) : List UInt8 × List UInt8 :=
  if w = wCap then (upL (wordL s).1, (wordL s).2) else if w = wName then wordL s else (w, s)
def zeroM : Trm := .mk 0 ⟨#[]⟩ ⟨#[]⟩ ⟨#[]⟩ []
def digW (w : List UInt8) : Bool := match w with
  | c :: _ => dig46 c
  | [] => false
/-- what stands behind the name of an operator: the kind, the variable, the next word, the rest -/
def overR (w s : List UInt8) : Int × List UInt8 × List UInt8 × List UInt8 :=
  if w = wOver then (5, (nameR (wordL s).1 (wordL s).2).1, (wordL (nameR (wordL s).1 (wordL s).2).2).1, (wordL (nameR (wordL s).1 (wordL s).2).2).2) else (4, [], w, s)
def asR (w s : List UInt8) : List UInt8 × List UInt8 × List UInt8 :=
  if w = wAs then ((wordL s).1, (wordL (wordL s).2).1, (wordL (wordL s).2).2) else ([], w, s)
mutual
/-- a term, the rest of the text, how many terms may still be read -/
def rdT : Nat → Nat → List UInt8 → Trm × List UInt8 × Nat
  | 0, left, s => (zeroM, s, left)
  | f + 1, left, s =>
    if left = 0 then (zeroM, (wordL s).2, 0)
    else if (wordL s).1 = wText then
      (.mk 3 (bys ((wordL (wordL s).2).2.take (numN (wordL (wordL s).2).1))) ⟨#[]⟩ ⟨#[]⟩ [], (wordL (wordL s).2).2.drop (numN (wordL (wordL s).2).1 + 1), left - 1)
    else if (wordL s).1 = wThe then
      (.mk (overR (wordL (wordL (wordL s).2).2).1 (wordL (wordL (wordL s).2).2).2).1 (bys (wordL (wordL s).2).1) (bys (overR (wordL (wordL (wordL s).2).2).1 (wordL (wordL (wordL s).2).2).2).2.1)
        (bys (asR (overR (wordL (wordL (wordL s).2).2).1 (wordL (wordL (wordL s).2).2).2).2.2.1 (overR (wordL (wordL (wordL s).2).2).1 (wordL (wordL (wordL s).2).2).2).2.2.2).1)
        (rdA f (left - 1) (asR (overR (wordL (wordL (wordL s).2).2).1 (wordL (wordL (wordL s).2).2).2).2.2.1 (overR (wordL (wordL (wordL s).2).2).1 (wordL (wordL (wordL s).2).2).2).2.2.2).2.1 (asR (overR (wordL (wordL (wordL s).2).2).1 (wordL (wordL (wordL s).2).2).2).2.2.1 (overR (wordL (wordL (wordL s).2).2).1 (wordL (wordL (wordL s).2).2).2).2.2.2).2.2).1,
       (rdA f (left - 1) (asR (overR (wordL (wordL (wordL s).2).2).1 (wordL (wordL (wordL s).2).2).2).2.2.1 (overR (wordL (wordL (wordL s).2).2).1 (wordL (wordL (wordL s).2).2).2).2.2.2).2.1 (asR (overR (wordL (wordL (wordL s).2).2).1 (wordL (wordL (wordL s).2).2).2).2.2.1 (overR (wordL (wordL (wordL s).2).2).1 (wordL (wordL (wordL s).2).2).2).2.2.2).2.2).2)
    else if digW (wordL s).1 = true then (.mk 1 (bys (wordL s).1) ⟨#[]⟩ ⟨#[]⟩ [], (wordL s).2, left - 1)
    else (.mk 2 (bys (nameR (wordL s).1 (wordL s).2).1) ⟨#[]⟩ ⟨#[]⟩ [], (nameR (wordL s).1 (wordL s).2).2, left - 1)
def rdA : Nat → Nat → List UInt8 → List UInt8 → List Trm × List UInt8 × Nat
  | 0, left, _, s => ([], s, left)
  | f + 1, left, w, s =>
    if (w = wOf ∨ w = wAnd) ∧ 0 < left then
      ((rdT f left s).1 :: (rdA f (rdT f left s).2.2 (wordL (rdT f left s).2.1).1 (wordL (rdT f left s).2.1).2).1, (rdA f (rdT f left s).2.2 (wordL (rdT f left s).2.1).1 (wordL (rdT f left s).2.1).2).2)
    else ([], s, left)
end
theorem num_facts {l : List UInt8} (h : numP l = true) : (32 : UInt8) ∉ l ∧ digW l = true := by
  rw [← num_same] at h
  unfold numR at h
  simp only [Bool.and_eq_true, decide_eq_true_eq] at h
  obtain ⟨h1, h2, -, h3, -, -⟩ := h
  rw [List.all_eq_true] at h1
  refine ⟨fun hm => ?_, ?_⟩
  · have := h1 32 hm
    revert this
    decide
  · cases l with
    | nil => simp at h3
    | cons c r =>
      have := h1 c List.mem_cons_self
      rw [Bool.or_eq_true, beq_iff_eq] at this
      rcases this with e | e
      · subst e; simp at h2
      · exact e
theorem prin_not {l : List UInt8} (h : prinL 33 l = true) : (32 : UInt8) ∉ l := fun hm => by
  have := List.all_eq_true.1 h 32 hm
  revert this
  decide
theorem up_low {c : UInt8} (h : letB c = true) (h1 : c.toNat ≤ 90) : upL (Lib.toLowerA [c]) = [c] := by
  have : ∀ n : Nat, n < 256 → letB (UInt8.ofNat n) = true → (UInt8.ofNat n).toNat ≤ 90 → upL (Lib.toLowerA [UInt8.ofNat n]) = [UInt8.ofNat n] := by decide +kernel
  have := this c.toNat c.toNat_lt
  rw [UInt8.ofNat_toNat] at this
  exact this h h1
/-- a spoken name gives the identifier back -/
theorem spoken_read {v : List UInt8} (h : idB v = true) : ∃ w ws, spokenL v = w :: ws ∧ (32 : UInt8) ∉ w ∧ digW w = false ∧ w ≠ wText ∧ w ≠ wThe ∧ ∀ r, Cl r → nameR w (lsP ws ++ r).tail = (v, r.tail) := by
  obtain ⟨hl, h1, h2⟩ := id_named h
  unfold spokenL
  rw [if_pos h]
  by_cases hn : 1 < v.length
  · rw [if_pos hn]
    refine ⟨wName, [v], rfl, by decide, by decide, by decide, by decide, fun r hr => ?_⟩
    unfold nameR
    rw [if_neg (by decide), if_pos rfl, word_ls (lettersB_not hl) hr]
    rfl
  · rw [if_neg hn]
    obtain ⟨c, rfl⟩ : ∃ c, v = [c] := by
      cases v with
      | nil => simp at h1
      | cons c r =>
        cases r with
        | nil => exact ⟨c, rfl⟩
        | cons d r => simp at hn
    have hc : letB c = true := List.all_eq_true.1 hl c List.mem_cons_self
    by_cases hu : c.toNat ≤ 90
    · rw [if_pos (show ([c].headD 0).toNat ≤ 90 from hu)]
      refine ⟨wCap, [Lib.toLowerA [c]], rfl, by decide, by decide, by decide, by decide, fun r hr => ?_⟩
      unfold nameR
      rw [if_pos rfl, word_ls (lettersB_not (lower_letters hl)) hr]
      show (upL (Lib.toLowerA [c]), _) = _
      rw [up_low hc hu]
      rfl
    · rw [if_neg (show ¬ ([c].headD 0).toNat ≤ 90 from hu)]
      refine ⟨[c], [], rfl, lettersB_not hl, ?_, by simp [wText], by simp [wThe], fun r _ => ?_⟩
      · show dig46 c = false
        unfold dig46
        rw [decide_eq_false (p := c.toNat ≤ 57) (by omega), Bool.and_false]
      · unfold nameR
        rw [if_neg (by simp [wCap]), if_neg (by simp [wName])]
        rfl
end Go.Proofs.YtpokelkneblafaaGreatDoor
