/- The reader gives a valid term back from its spoken text; different valid terms have different texts. -/
import Derived.Test.YtpokelkneblafaaGreatDoorRD
namespace Go.Proofs.YtpokelkneblafaaGreatDoor
def dg3 (u : Nat) : List UInt8 := if u < 10 then [UInt8.ofNat (48 + u)] else if u < 100 then [UInt8.ofNat (48 + u / 10), UInt8.ofNat (48 + u % 10)] else [UInt8.ofNat (48 + u / 100), UInt8.ofNat (48 + u / 10 % 10), UInt8.ofNat (48 + u % 10)]
theorem dec_dg3 {u : Nat} (h : u < 1000) : Lib.decDigits u = dg3 u := by
  unfold dg3
  split
  · rw [Lib.decDigits, dif_pos ‹_›]
  · rw [Lib.decDigits, dif_neg ‹_›]
    split
    · rw [Lib.decDigits, dif_pos (by omega)]; rfl
    · rw [Lib.decDigits, dif_neg (by omega), Lib.decDigits, dif_pos (by omega), Nat.div_div_eq_div_mul]; rfl
theorem num_dg : ∀ u : Nat, u < 201 → numN (dg3 u) = u ∧ (32 : UInt8) ∉ dg3 u := by decide +kernel
theorem num_dec {u : Nat} (h : u ≤ 200) : numN (Lib.decDigits u) = u ∧ (32 : UInt8) ∉ Lib.decDigits u := by
  rw [dec_dg3 (by omega)]
  exact num_dg u (by omega)
theorem empty_of {v : ByteArray} (h : v.data.toList.isEmpty = true) : v = ⟨#[]⟩ := by
  apply ByteArray.ext
  have := List.isEmpty_iff.1 h
  exact Array.toList_eq_nil_iff.1 this
/-- where the arguments begin -/
theorem args_head (ts : List Trm) (b : Bool) : ∃ x xs, prtL b ts ++ [wEnd] = x :: xs ∧ (32 : UInt8) ∉ x ∧ x ≠ wOver ∧ x ≠ wAs := by
  cases ts with
  | nil => exact ⟨wEnd, [], by rw [prtL]; rfl, by decide, by decide, by decide⟩
  | cons t ts =>
    rw [prtL]
    cases b
    · exact ⟨wAnd, _, rfl, by decide, by decide, by decide⟩
    · exact ⟨wOf, _, rfl, by decide, by decide, by decide⟩
/-- the form, if there is one -/
theorem as_read {fm : List UInt8} (hf : (32 : UInt8) ∉ fm) {x : List UInt8} {xs : List (List UInt8)} (hx : (32 : UInt8) ∉ x) (hxa : x ≠ wAs) {r : List UInt8} (hr : Cl r) :
    asR (wordL (lsP ((if fm.isEmpty then [] else [wAs, fm]) ++ x :: xs) ++ r).tail).1 (wordL (lsP ((if fm.isEmpty then [] else [wAs, fm]) ++ x :: xs) ++ r).tail).2 = (fm, x, (lsP xs ++ r).tail) := by
  cases fm with
  | nil =>
    rw [if_pos (show ([] : List UInt8).isEmpty = true from rfl), List.nil_append, word_ls hx hr]
    unfold asR
    rw [if_neg hxa]
  | cons c q =>
    rw [if_neg (by simp), List.cons_append, word_ls (by decide) hr]
    unfold asR
    rw [if_pos rfl]
    show ((wordL (lsP ((c :: q) :: x :: xs) ++ r).tail).1, (wordL (wordL (lsP ((c :: q) :: x :: xs) ++ r).tail).2).1, (wordL (wordL (lsP ((c :: q) :: x :: xs) ++ r).tail).2).2) = _
    rw [word_ls hf hr, word_ls hx hr]
/-- the kind and the variable -/
theorem over_read {k : Int} (hk : k = 4 ∨ k = 5) {v : List UInt8} (hv : k = 5 → idB v = true) (hv4 : k = 4 → v = []) {y : List UInt8} {ys : List (List UInt8)} (hy : (32 : UInt8) ∉ y) (hyo : y ≠ wOver) {r : List UInt8} (hr : Cl r) :
    overR (wordL (lsP ((if k = 5 then wOver :: spokenL v else []) ++ y :: ys) ++ r).tail).1 (wordL (lsP ((if k = 5 then wOver :: spokenL v else []) ++ y :: ys) ++ r).tail).2 = (k, v, y, (lsP ys ++ r).tail) := by
  rcases hk with rfl | rfl
  · rw [if_neg (by decide), List.nil_append, word_ls hy hr, hv4 rfl]
    unfold overR
    rw [if_neg hyo]
  · obtain ⟨w, ws, e, hw, -, -, -, hread⟩ := spoken_read (hv rfl)
    rw [if_pos rfl, e, List.cons_append, word_ls (by decide) hr]
    unfold overR
    rw [if_pos rfl]
    show (5, (nameR (wordL (lsP ((w :: ws) ++ y :: ys) ++ r).tail).1 (wordL (lsP ((w :: ws) ++ y :: ys) ++ r).tail).2).1, (wordL (nameR (wordL (lsP ((w :: ws) ++ y :: ys) ++ r).tail).1 (wordL (lsP ((w :: ws) ++ y :: ys) ++ r).tail).2).2).1, (wordL (nameR (wordL (lsP ((w :: ws) ++ y :: ys) ++ r).tail).1 (wordL (lsP ((w :: ws) ++ y :: ys) ++ r).tail).2).2).2) = _
    rw [List.cons_append, word_ls hw hr, lsP_app, List.append_assoc]
    show (5, (nameR w (lsP ws ++ (lsP (y :: ys) ++ r)).tail).1, (wordL (nameR w (lsP ws ++ (lsP (y :: ys) ++ r)).tail).2).1, (wordL (nameR w (lsP ws ++ (lsP (y :: ys) ++ r)).tail).2).2) = _
    rw [hread _ (cl_ls hr)]
    show (5, v, (wordL (lsP (y :: ys) ++ r).tail).1, (wordL (lsP (y :: ys) ++ r).tail).2) = _
    rw [word_ls hy hr]
mutual
theorem rd_text : ∀ (t : Trm) (f left : Nat) (r : List UInt8), formM t = true → Cl r → 2 * cntM t ≤ f → cntM t ≤ left → rdT f left (lsP (prtM t) ++ r).tail = (t, r.tail, left - cntM t)
  | .mk k a v fm ts, f, left, r, h, hr, hf, hl => by
    rw [cntM] at hf hl
    obtain ⟨f, rfl⟩ : ∃ f', f = f' + 1 := ⟨f - 1, by omega⟩
    have hl0 : left ≠ 0 := by omega
    rw [formM, Bool.and_eq_true] at h
    obtain ⟨ho, hts⟩ := h
    unfold ownM at ho
    by_cases h1 : k = 1
    · subst h1
      rw [if_pos rfl] at ho
      simp only [Bool.and_eq_true, decide_eq_true_eq] at ho
      obtain ⟨⟨hv, hfm, hn⟩, ha⟩ := ho
      obtain rfl := empty_of hv
      obtain rfl := empty_of hfm
      obtain rfl := List.length_eq_zero_iff.1 hn
      obtain ⟨h32, hd⟩ := num_facts ha
      rw [prtM, if_pos rfl, rdT, word_ls h32 hr, if_neg hl0]
      show (if a.data.toList = wText then _ else if a.data.toList = wThe then _ else if digW a.data.toList = true then _ else _) = _
      rw [if_neg (fun e => by rw [e] at hd; revert hd; decide), if_neg (fun e => by rw [e] at hd; revert hd; decide), if_pos hd, data_bys, cntM, cntL]
      rfl
    rw [if_neg h1] at ho
    by_cases h2 : k = 2
    · subst h2
      rw [if_pos rfl] at ho
      simp only [Bool.and_eq_true, decide_eq_true_eq] at ho
      obtain ⟨⟨hv, hfm, hn⟩, ha⟩ := ho
      obtain rfl := empty_of hv
      obtain rfl := empty_of hfm
      obtain rfl := List.length_eq_zero_iff.1 hn
      obtain ⟨w, ws, e, hw, hd, hwt, hwh, hread⟩ := spoken_read ha
      rw [prtM, if_neg (by decide), if_pos rfl, e, rdT, word_ls hw hr, if_neg hl0]
      show (if w = wText then _ else if w = wThe then _ else if digW w = true then _ else _) = _
      rw [if_neg hwt, if_neg hwh, if_neg (by rw [hd]; simp)]
      show (Trm.mk 2 (bys (nameR w (lsP ws ++ r).tail).1) _ _ [], (nameR w (lsP ws ++ r).tail).2, left - 1) = _
      rw [hread r hr, cntM, cntL]
      show (Trm.mk 2 (bys a.data.toList) _ _ [], _, _) = _
      rw [data_bys]
    rw [if_neg h2] at ho
    by_cases h3 : k = 3
    · subst h3
      rw [if_pos rfl] at ho
      simp only [Bool.and_eq_true, decide_eq_true_eq] at ho
      obtain ⟨⟨hv, hfm, hn⟩, hp, ha⟩ := ho
      obtain rfl := empty_of hv
      obtain rfl := empty_of hfm
      obtain rfl := List.length_eq_zero_iff.1 hn
      have e3 : a.data.toList.length = a.size := by simp
      obtain ⟨hnum, h32⟩ := num_dec (u := a.size) (by omega)
      rw [prtM, if_neg (by decide), if_neg (by decide), if_pos rfl, rdT, word_ls (by decide) hr, if_neg hl0]
      show (if wText = wText then _ else _) = _
      rw [if_pos rfl]
      show (Trm.mk 3 (bys ((wordL (lsP [Lib.decDigits a.size, a.data.toList] ++ r).tail).2.take (numN (wordL (lsP [Lib.decDigits a.size, a.data.toList] ++ r).tail).1))) _ _ [], (wordL (lsP [Lib.decDigits a.size, a.data.toList] ++ r).tail).2.drop (numN (wordL (lsP [Lib.decDigits a.size, a.data.toList] ++ r).tail).1 + 1), left - 1) = _
      rw [word_ls h32 hr]
      show (Trm.mk 3 (bys (List.take (numN (Lib.decDigits a.size)) (lsP [a.data.toList] ++ r).tail)) _ _ [], List.drop (numN (Lib.decDigits a.size) + 1) (lsP [a.data.toList] ++ r).tail, left - 1) = _
      rw [hnum, lsP_cons, lsP_nil, List.append_nil]
      show (Trm.mk 3 (bys (List.take a.size (a.data.toList ++ r))) _ _ [], List.drop (a.size + 1) (a.data.toList ++ r), left - 1) = _
      rw [List.take_left' e3, ← List.drop_drop, List.drop_left' e3, data_bys, cntM, cntL, List.drop_one]
    rw [if_neg h3] at ho
    have hall : (k = 4 ∨ k = 5) ∧ (32 : UInt8) ∉ fm.data.toList ∧ (32 : UInt8) ∉ a.data.toList ∧ (k = 5 → idB v.data.toList = true) ∧ (k = 4 → v.data.toList = []) := by
      by_cases h4 : k = 4
      · rw [if_pos h4] at ho
        simp only [Bool.and_eq_true, decide_eq_true_eq] at ho
        exact ⟨.inl h4, prin_not ho.1.1, lettersB_not (named_all ho.2.1).1, fun e => by omega, fun _ => List.isEmpty_iff.1 ho.2.2⟩
      · rw [if_neg h4] at ho
        by_cases h5 : k = 5
        · rw [if_pos h5] at ho
          simp only [Bool.and_eq_true, decide_eq_true_eq] at ho
          exact ⟨.inr h5, prin_not ho.1.1, lettersB_not (named_all ho.2.1).1, fun _ => ho.2.2.1, fun e => absurd e h4⟩
        · rw [if_neg h5] at ho; cases ho
    obtain ⟨hk, hfs, has, hv5, hv4⟩ := hall
    have ih := rd_args ts true f (left - 1) r hts hr (by omega) (by omega)
    obtain ⟨x, xs, ex, hx, hxo, hxa⟩ := args_head ts true
    rw [ex, word_ls hx hr] at ih
    -- the next word behind the variable
    obtain ⟨y, ys, ey, hy, hyo⟩ : ∃ y ys, (if fm.data.toList.isEmpty then [] else [wAs, fm.data.toList]) ++ x :: xs = y :: ys ∧ (32 : UInt8) ∉ y ∧ y ≠ wOver := by
      by_cases he : fm.data.toList.isEmpty = true
      · exact ⟨x, xs, by rw [if_pos he]; rfl, hx, hxo⟩
      · exact ⟨wAs, fm.data.toList :: x :: xs, by rw [if_neg he]; rfl, by decide, by decide⟩
    have hov := over_read (v := v.data.toList) hk hv5 hv4 (y := y) (ys := ys) hy hyo hr
    have has2 := as_read (fm := fm.data.toList) hfs (x := x) (xs := xs) hx hxa hr
    rw [ey, word_ls hy hr] at has2
    rw [prtM, if_neg h1, if_neg h2, if_neg h3, ex, ey]
    show rdT (f + 1) left (lsP (wThe :: a.data.toList :: ((if k = 5 then wOver :: spokenL v.data.toList else []) ++ y :: ys)) ++ r).tail = _
    generalize hM : (if k = 5 then wOver :: spokenL v.data.toList else []) ++ y :: ys = M at *
    have e1 : wordL (lsP (wThe :: a.data.toList :: M) ++ r).tail = (wThe, (lsP (a.data.toList :: M) ++ r).tail) := word_ls (by decide) hr
    have e2 : wordL (lsP (a.data.toList :: M) ++ r).tail = (a.data.toList, (lsP M ++ r).tail) := word_ls has hr
    rw [rdT, e1, if_neg hl0]
    show (if wThe = wText then _ else if wThe = wThe then _ else _) = _
    rw [if_neg (by decide), if_pos rfl]
    simp only [e2, hov, has2, ih, data_bys]
    rw [cntM]
    congr 2
    omega
theorem rd_args : ∀ (ts : List Trm) (b : Bool) (f left : Nat) (r : List UInt8), formML ts = true → Cl r → 2 * cntL ts + 1 ≤ f → cntL ts ≤ left → rdA f left (wordL (lsP (prtL b ts ++ [wEnd]) ++ r).tail).1 (wordL (lsP (prtL b ts ++ [wEnd]) ++ r).tail).2 = (ts, r.tail, left - cntL ts)
  | [], b, f, left, r, _, hr, hf, _ => by
    obtain ⟨f, rfl⟩ : ∃ f', f = f' + 1 := ⟨f - 1, by omega⟩
    have hno : ¬ ((wEnd = wOf ∨ wEnd = wAnd) ∧ 0 < left) := fun h => absurd h.1 (by decide)
    rw [prtL, List.nil_append, word_ls (by decide) hr, rdA, if_neg hno, cntL]
    rfl
  | t :: ts, b, f, left, r, h, hr, hf, hl => by
    rw [cntL] at hf hl
    have hp := cnt_pos t
    obtain ⟨f, rfl⟩ : ∃ f', f = f' + 1 := ⟨f - 1, by omega⟩
    rw [formML, Bool.and_eq_true] at h
    have i1 := rd_text t f left (lsP (prtL false ts ++ [wEnd]) ++ r) h.1 (cl_ls hr) (by omega) (by omega)
    have i2 := rd_args ts false f (left - cntM t) r h.2 hr (by omega) (by omega)
    have hw : (32 : UInt8) ∉ (if b = true then wOf else wAnd) := by cases b <;> decide
    have hw2 : (if b = true then wOf else wAnd) = wOf ∨ (if b = true then wOf else wAnd) = wAnd := by cases b <;> simp
    rw [prtL, List.cons_append, word_ls hw hr, rdA, if_pos ⟨hw2, by omega⟩, List.append_assoc, lsP_app, List.append_assoc]
    simp only [i1, i2]
    rw [cntL]
    congr 2
    omega
end
theorem prt_ne (t : Trm) : ∃ p ps, prtM t = p :: ps := by
  obtain ⟨k, a, v, f, ts⟩ := t
  rw [prtM]
  by_cases h1 : k = 1
  · rw [if_pos h1]; exact ⟨_, _, rfl⟩
  rw [if_neg h1]
  by_cases h2 : k = 2
  · rw [if_pos h2]
    unfold spokenL
    split
    · split
      · exact ⟨_, _, rfl⟩
      · split <;> exact ⟨_, _, rfl⟩
    · exact ⟨_, _, rfl⟩
  rw [if_neg h2]
  by_cases h3 : k = 3
  · rw [if_pos h3]; exact ⟨_, _, rfl⟩
  rw [if_neg h3]; exact ⟨_, _, rfl⟩
theorem text_tail (t : Trm) : textM t = (lsP (prtM t) ++ []).tail := by
  obtain ⟨p, ps, e⟩ := prt_ne t
  unfold textM
  rw [e, join_ls, lsP_cons, List.append_nil]
  rfl
/-- the reader gives the term back -/
theorem read_text {t : Trm} (h : validM t = true) : (rdT 2000 1000 (textM t)).1 = t := by
  unfold validM at h
  rw [Bool.and_eq_true, decide_eq_true_eq] at h
  rw [text_tail, rd_text t 2000 1000 [] h.1 (.inl rfl) (by omega) h.2]
theorem text_inj {t u : Trm} (ht : validM t = true) (hu : validM u = true) (h : textM t = textM u) : t = u := by
  rw [← read_text ht, ← read_text hu, h]
end Go.Proofs.YtpokelkneblafaaGreatDoor
