/- The program's reader of spoken texts, plain: it gives a valid term back from its text, and is not bad then. -/
import Derived.Test.YtpokelkneblafaaGreatDoorRE
import Derived.Lib.AtoiAllCases
import Derived.Lib.MapU
import Derived.Lib.Strings
import Derived.Shelf.Strings.CaseAny
namespace Go.Proofs.YtpokelkneblafaaGreatDoor
/-- the state of the parser: the rest, whether it is ended, whether something did not fit, how many terms -/
structure PS where
  rest : List UInt8
  fin : Bool
  bad : Bool
  cnt : Nat
def stOf (r : List UInt8) (n : Nat) : PS := ⟨r.tail, r.isEmpty, false, n⟩
def wordP (s : PS) : List UInt8 × PS :=
  if s.fin = true then ([], ⟨s.rest, s.fin, true, s.cnt⟩) else ((Lib.cut s.rest [32]).1, ⟨(Lib.cut s.rest [32]).2.1, !(Lib.cut s.rest [32]).2.2, s.bad, s.cnt⟩)
theorem cut_cl {p r : List UInt8} (hp : (32 : UInt8) ∉ p) (h : Cl r) : Lib.cut (p ++ r) [32] = (p, r.tail, !r.isEmpty) := by
  rcases h with rfl | ⟨r', rfl⟩
  · rw [List.append_nil, cut_miss 32 hp]; rfl
  · rw [cut_hit 32 hp]; rfl
theorem wordP_ls {p : List UInt8} {ps : List (List UInt8)} {r : List UInt8} {n : Nat} (hp : (32 : UInt8) ∉ p) (h : Cl r) : wordP (stOf (lsP (p :: ps) ++ r) n) = (p, stOf (lsP ps ++ r) n) := by
  have e : stOf (lsP (p :: ps) ++ r) n = ⟨p ++ (lsP ps ++ r), false, false, n⟩ := by
    rw [lsP_cons]
    show (⟨p ++ lsP ps ++ r, false, false, n⟩ : PS) = _
    rw [List.append_assoc]
  rw [e]
  unfold wordP
  rw [if_neg (by simp)]
  show ((Lib.cut (p ++ (lsP ps ++ r)) [32]).1, (⟨(Lib.cut (p ++ (lsP ps ++ r)) [32]).2.1, !(Lib.cut (p ++ (lsP ps ++ r)) [32]).2.2, false, n⟩ : PS)) = _
  rw [cut_cl hp (cl_ls h)]
  show (p, (⟨_, !!_, false, n⟩ : PS)) = _
  rw [Bool.not_not]
  rfl
/-- a number that a word spells -/
def atoiN (w : List UInt8) : Option Nat := match Lib.atoiAll w with
  | .ok v => if 0 ≤ v then some v.toNat else none
  | _ => none
def charsP (w : List UInt8) (s : PS) : List UInt8 × PS :=
  match atoiN w with
  | none => ([], ⟨s.rest, s.fin, true, s.cnt⟩)
  | some n =>
    if n ≤ s.rest.length ∧ s.fin = false then
      (s.rest.take n, ⟨Lib.trimPrefix (s.rest.drop n) [32], !Lib.hasPrefix (s.rest.drop n) [32], s.bad || (!Lib.hasPrefix (s.rest.drop n) [32] && !(Lib.trimPrefix (s.rest.drop n) [32]).isEmpty), s.cnt⟩)
    else ([], ⟨s.rest, s.fin, true, s.cnt⟩)
theorem num_at : ∀ u : Nat, u < 201 → atoiN (dg3 u) = some u := by decide +kernel
theorem atoiN_dec {u : Nat} (h : u ≤ 200) : atoiN (Lib.decDigits u) = some u := by
  rw [dec_dg3 (by omega)]
  exact num_at u (by omega)
theorem chars_ls {a : List UInt8} {r : List UInt8} {n : Nat} (ha : a.length ≤ 200) (h : Cl r) : charsP (Lib.decDigits a.length) (stOf (lsP [a] ++ r) n) = (a, stOf r n) := by
  have e : stOf (lsP [a] ++ r) n = ⟨a ++ r, false, false, n⟩ := by
    rw [lsP_cons, lsP_nil, List.append_nil]
    rfl
  rw [e]
  unfold charsP
  rw [atoiN_dec ha]
  show (if a.length ≤ (a ++ r).length ∧ false = false then _ else _) = _
  rw [if_pos ⟨by simp, rfl⟩]
  show ((a ++ r).take a.length, (⟨Lib.trimPrefix ((a ++ r).drop a.length) [32], _, false || (!Lib.hasPrefix ((a ++ r).drop a.length) [32] && !(Lib.trimPrefix ((a ++ r).drop a.length) [32]).isEmpty), n⟩ : PS)) = _
  rw [List.take_left, List.drop_left]
  rcases h with rfl | ⟨r', rfl⟩
  · rfl
  · have e1 : Lib.hasPrefix (32 :: r') [32] = true := by simp [Lib.hasPrefix]
    have e2 : Lib.trimPrefix (32 :: r') [32] = r' := by unfold Lib.trimPrefix; rw [if_pos e1]; rfl
    rw [e2]
    show (a, (⟨r', !Lib.hasPrefix (32 :: r') [32], false || (!Lib.hasPrefix (32 :: r') [32] && !r'.isEmpty), n⟩ : PS)) = _
    rw [e1]
    rfl
/-- the rest of a spoken name that begins with a word -/
def identP (w : List UInt8) (s : PS) : List UInt8 × PS :=
  if w = wName then wordP s else if w = wCap then (Lib.toUpperD (wordP s).1, (wordP s).2) else (w, s)
theorem upper_low {c : UInt8} (h : letB c = true) (h1 : c.toNat ≤ 90) : Lib.toUpperD (Lib.toLowerA [c]) = [c] := by
  have h2 : ∀ n : Nat, n < 256 → letB (UInt8.ofNat n) = true → (UInt8.ofNat n).toNat ≤ 90 → Lib.toUpperA (Lib.toLowerA [UInt8.ofNat n]) = [UInt8.ofNat n] ∧ ∀ b ∈ Lib.toLowerA [UInt8.ofNat n], b.toNat < 128 := by decide +kernel
  have := h2 c.toNat c.toNat_lt
  rw [UInt8.ofNat_toNat] at this
  rw [Lib.toUpperD_ascii _ (this h h1).2]
  exact (this h h1).1
theorem spoken_readP {v : List UInt8} (h : idB v = true) : ∃ w ws, spokenL v = w :: ws ∧ (32 : UInt8) ∉ w ∧ digW w = false ∧ w ≠ wText ∧ w ≠ wThe ∧ ∀ r n, Cl r → identP w (stOf (lsP ws ++ r) n) = (v, stOf r n) := by
  obtain ⟨hl, h1, h2⟩ := id_named h
  unfold spokenL
  rw [if_pos h]
  by_cases hn : 1 < v.length
  · rw [if_pos hn]
    refine ⟨wName, [v], rfl, by decide, by decide, by decide, by decide, fun r n hr => ?_⟩
    unfold identP
    rw [if_pos rfl, wordP_ls (lettersB_not hl) hr]
    rfl
  · rw [if_neg hn]
    obtain ⟨c, rfl⟩ : ∃ c, v = [c] := by
      cases v with
      | nil => simp at h1
      | cons c r =>
        cases r with
        | nil => exact ⟨c, rfl⟩
        | cons d r => simp at hn
    have hc : letB c = true := List.all_eq_true.1 hl c List.mem_cons_self
    by_cases hu : c.toNat ≤ 90
    · rw [if_pos (show ([c].headD 0).toNat ≤ 90 from hu)]
      refine ⟨wCap, [Lib.toLowerA [c]], rfl, by decide, by decide, by decide, by decide, fun r n hr => ?_⟩
      unfold identP
      rw [if_neg (by decide), if_pos rfl, wordP_ls (lettersB_not (lower_letters hl)) hr]
      show (Lib.toUpperD (Lib.toLowerA [c]), _) = _
      rw [upper_low hc hu]
      rfl
    · rw [if_neg (show ¬ ([c].headD 0).toNat ≤ 90 from hu)]
      refine ⟨[c], [], rfl, lettersB_not hl, ?_, by simp [wText], by simp [wThe], fun r n _ => ?_⟩
      · show dig46 c = false
        unfold dig46
        rw [decide_eq_false (p := c.toNat ≤ 57) (by omega), Bool.and_false]
      · unfold identP
        rw [if_neg (by simp [wName]), if_neg (by simp [wCap])]
        rfl
/-- what stands behind the name of an operator: the kind, the variable, the next word, the state -/
def overP (w : List UInt8) (s : PS) : Int × List UInt8 × List UInt8 × PS :=
  if w = wOver then (5, (identP (wordP s).1 (wordP s).2).1, wordP (identP (wordP s).1 (wordP s).2).2) else (4, [], w, s)
def asP (w : List UInt8) (s : PS) : List UInt8 × List UInt8 × PS :=
  if w = wAs then ((wordP s).1, wordP (wordP s).2) else ([], w, s)
mutual
def termP : Nat → PS → Trm × PS
  | 0, s => (zeroM, s)
  | f + 1, s =>
    if 1000 < s.cnt + 1 ∨ s.bad = true then (zeroM, ⟨s.rest, s.fin, true, s.cnt + 1⟩)
    else if (wordP ⟨s.rest, s.fin, false, s.cnt + 1⟩).1 = wThe then applyP f (wordP ⟨s.rest, s.fin, false, s.cnt + 1⟩).2
    else if (wordP ⟨s.rest, s.fin, false, s.cnt + 1⟩).1 = wText then
      (.mk 3 (bys (charsP (wordP (wordP ⟨s.rest, s.fin, false, s.cnt + 1⟩).2).1 (wordP (wordP ⟨s.rest, s.fin, false, s.cnt + 1⟩).2).2).1) ⟨#[]⟩ ⟨#[]⟩ [], (charsP (wordP (wordP ⟨s.rest, s.fin, false, s.cnt + 1⟩).2).1 (wordP (wordP ⟨s.rest, s.fin, false, s.cnt + 1⟩).2).2).2)
    else if digW (wordP ⟨s.rest, s.fin, false, s.cnt + 1⟩).1 = true then (.mk 1 (bys (wordP ⟨s.rest, s.fin, false, s.cnt + 1⟩).1) ⟨#[]⟩ ⟨#[]⟩ [], (wordP ⟨s.rest, s.fin, false, s.cnt + 1⟩).2)
    else (.mk 2 (bys (identP (wordP ⟨s.rest, s.fin, false, s.cnt + 1⟩).1 (wordP ⟨s.rest, s.fin, false, s.cnt + 1⟩).2).1) ⟨#[]⟩ ⟨#[]⟩ [], (identP (wordP ⟨s.rest, s.fin, false, s.cnt + 1⟩).1 (wordP ⟨s.rest, s.fin, false, s.cnt + 1⟩).2).2)
/-- behind "the" -/
def applyP : Nat → PS → Trm × PS
  | 0, s => (zeroM, s)
  | f + 1, s =>
    let w0 := wordP s
    let w1 := wordP w0.2
    let o := overP w1.1 w1.2
    let a := asP o.2.2.1 o.2.2.2
    let q := if a.2.1 = wOf then argsP f a.2.2 else ([], a.2.1, a.2.2)
    (.mk o.1 (bys w0.1) (bys o.2.1) (bys a.1) q.1, ⟨q.2.2.rest, q.2.2.fin, q.2.2.bad || decide (q.2.1 ≠ wEnd), q.2.2.cnt⟩)
/-- the arguments, and the word behind them -/
def argsP : Nat → PS → List Trm × List UInt8 × PS
  | 0, s => ([], wAnd, s)
  | f + 1, s =>
    if s.bad = true then ([], wAnd, s)
    else if (wordP (termP f s).2).1 = wAnd then ((termP f s).1 :: (argsP f (wordP (termP f s).2).2).1, (argsP f (wordP (termP f s).2).2).2)
    else ([(termP f s).1], wordP (termP f s).2)
end
theorem overP_read {k : Int} (hk : k = 4 ∨ k = 5) {v : List UInt8} (hv : k = 5 → idB v = true) (hv4 : k = 4 → v = []) {y : List UInt8} {ys : List (List UInt8)} (hy : (32 : UInt8) ∉ y) (hyo : y ≠ wOver) {r : List UInt8} (hr : Cl r) {n : Nat} :
    overP (wordP (stOf (lsP ((if k = 5 then wOver :: spokenL v else []) ++ y :: ys) ++ r) n)).1 (wordP (stOf (lsP ((if k = 5 then wOver :: spokenL v else []) ++ y :: ys) ++ r) n)).2 = (k, v, y, stOf (lsP ys ++ r) n) := by
  rcases hk with rfl | rfl
  · rw [if_neg (by decide), List.nil_append, wordP_ls hy hr, hv4 rfl]
    unfold overP
    rw [if_neg hyo]
  · obtain ⟨w, ws, e, hw, -, -, -, hread⟩ := spoken_readP (hv rfl)
    rw [if_pos rfl, e, List.cons_append, wordP_ls (by decide) hr]
    unfold overP
    rw [if_pos rfl]
    have e1 : wordP (stOf (lsP ((w :: ws) ++ y :: ys) ++ r) n) = (w, stOf (lsP ws ++ (lsP (y :: ys) ++ r)) n) := by
      rw [List.cons_append, wordP_ls hw hr, lsP_app, List.append_assoc]
    show (5, (identP (wordP (stOf (lsP ((w :: ws) ++ y :: ys) ++ r) n)).1 (wordP (stOf (lsP ((w :: ws) ++ y :: ys) ++ r) n)).2).1, wordP (identP (wordP (stOf (lsP ((w :: ws) ++ y :: ys) ++ r) n)).1 (wordP (stOf (lsP ((w :: ws) ++ y :: ys) ++ r) n)).2).2) = _
    rw [e1]
    show (5, (identP w (stOf (lsP ws ++ (lsP (y :: ys) ++ r)) n)).1, wordP (identP w (stOf (lsP ws ++ (lsP (y :: ys) ++ r)) n)).2) = _
    rw [hread _ _ (cl_ls hr)]
    show (5, v, wordP (stOf (lsP (y :: ys) ++ r) n)) = _
    rw [wordP_ls hy hr]
theorem asP_read {fm : List UInt8} (hf : (32 : UInt8) ∉ fm) {x : List UInt8} {xs : List (List UInt8)} (hx : (32 : UInt8) ∉ x) (hxa : x ≠ wAs) {r : List UInt8} (hr : Cl r) {n : Nat} :
    asP (wordP (stOf (lsP ((if fm.isEmpty then [] else [wAs, fm]) ++ x :: xs) ++ r) n)).1 (wordP (stOf (lsP ((if fm.isEmpty then [] else [wAs, fm]) ++ x :: xs) ++ r) n)).2 = (fm, x, stOf (lsP xs ++ r) n) := by
  cases fm with
  | nil =>
    rw [if_pos (show ([] : List UInt8).isEmpty = true from rfl), List.nil_append, wordP_ls hx hr]
    unfold asP
    rw [if_neg hxa]
  | cons c q =>
    rw [if_neg (by simp), List.cons_append, wordP_ls (by decide) hr]
    unfold asP
    rw [if_pos rfl]
    show ((wordP (stOf (lsP ((c :: q) :: x :: xs) ++ r) n)).1, wordP (wordP (stOf (lsP ((c :: q) :: x :: xs) ++ r) n)).2) = _
    rw [wordP_ls hf hr]
    show (c :: q, wordP (stOf (lsP (x :: xs) ++ r) n)) = _
    rw [wordP_ls hx hr]
theorem bump {r : List UInt8} {n : Nat} : (⟨(stOf r n).rest, (stOf r n).fin, false, (stOf r n).cnt + 1⟩ : PS) = stOf r (n + 1) := rfl
theorem no_stop {r : List UInt8} {n : Nat} (h : n + 1 ≤ 1000) : ¬ (1000 < (stOf r n).cnt + 1 ∨ (stOf r n).bad = true) := by
  show ¬ (1000 < n + 1 ∨ false = true)
  intro h
  rcases h with h | h
  · omega
  · cases h
theorem end_word (b : Bool) (ts : List Trm) (hn : ts = []) : (prtL b ts).tail ++ [wEnd] = [wEnd] := by subst hn; cases b <;> rfl
mutual
theorem rp_text : ∀ (t : Trm) (f n : Nat) (r : List UInt8), formM t = true → Cl r → 3 * cntM t ≤ f → n + cntM t ≤ 1000 → termP f (stOf (lsP (prtM t) ++ r) n) = (t, stOf r (n + cntM t))
  | .mk k a v fm ts, f, n, r, h, hr, hf, hl => by
    rw [cntM] at hf hl
    obtain ⟨f, rfl⟩ : ∃ f', f = f' + 1 := ⟨f - 1, by omega⟩
    have hns := no_stop (r := lsP (prtM (.mk k a v fm ts)) ++ r) (n := n) (by omega)
    rw [formM, Bool.and_eq_true] at h
    obtain ⟨ho, hts⟩ := h
    unfold ownM at ho
    rw [termP, if_neg hns]
    rw [bump]
    by_cases h1 : k = 1
    · subst h1
      rw [if_pos rfl] at ho
      simp only [Bool.and_eq_true, decide_eq_true_eq] at ho
      obtain ⟨⟨hv, hfm, hn⟩, ha⟩ := ho
      obtain rfl := empty_of hv
      obtain rfl := empty_of hfm
      obtain rfl := List.length_eq_zero_iff.1 hn
      obtain ⟨h32, hd⟩ := num_facts ha
      rw [prtM, if_pos rfl, wordP_ls h32 hr]
      show (if a.data.toList = wThe then _ else if a.data.toList = wText then _ else if digW a.data.toList = true then _ else _) = _
      rw [if_neg (fun e => by rw [e] at hd; revert hd; decide), if_neg (fun e => by rw [e] at hd; revert hd; decide), if_pos hd, data_bys, cntM, cntL]
      rfl
    rw [if_neg h1] at ho
    by_cases h2 : k = 2
    · subst h2
      rw [if_pos rfl] at ho
      simp only [Bool.and_eq_true, decide_eq_true_eq] at ho
      obtain ⟨⟨hv, hfm, hn⟩, ha⟩ := ho
      obtain rfl := empty_of hv
      obtain rfl := empty_of hfm
      obtain rfl := List.length_eq_zero_iff.1 hn
      obtain ⟨w, ws, e, hw, hd, hwt, hwh, hread⟩ := spoken_readP ha
      have ep : prtM (.mk 2 a ⟨#[]⟩ ⟨#[]⟩ []) = spokenL a.data.toList := by rw [prtM, if_neg (by decide), if_pos rfl]
      rw [ep, e, wordP_ls hw hr]
      show (if w = wThe then _ else if w = wText then _ else if digW w = true then _ else _) = _
      rw [if_neg hwh, if_neg hwt, if_neg (by rw [hd]; simp)]
      show (Trm.mk 2 (bys (identP w (stOf (lsP ws ++ r) (n + 1))).1) _ _ [], (identP w (stOf (lsP ws ++ r) (n + 1))).2) = _
      rw [hread r _ hr, cntM, cntL]
      show (Trm.mk 2 (bys a.data.toList) _ _ [], _) = _
      rw [data_bys]
    rw [if_neg h2] at ho
    by_cases h3 : k = 3
    · subst h3
      rw [if_pos rfl] at ho
      simp only [Bool.and_eq_true, decide_eq_true_eq] at ho
      obtain ⟨⟨hv, hfm, hn⟩, hp, ha⟩ := ho
      obtain rfl := empty_of hv
      obtain rfl := empty_of hfm
      obtain rfl := List.length_eq_zero_iff.1 hn
      have e3 : a.data.toList.length = a.size := by simp
      obtain ⟨hnum, h32⟩ := num_dec (u := a.size) (by omega)
      have ep : prtM (.mk 3 a ⟨#[]⟩ ⟨#[]⟩ []) = [wText, Lib.decDigits a.size, a.data.toList] := by rw [prtM, if_neg (by decide), if_neg (by decide), if_pos rfl]
      rw [ep, wordP_ls (by decide) hr]
      show (if wText = wThe then _ else if wText = wText then _ else _) = _
      rw [if_neg (by decide), if_pos rfl]
      show (Trm.mk 3 (bys (charsP (wordP (stOf (lsP [Lib.decDigits a.size, a.data.toList] ++ r) (n + 1))).1 (wordP (stOf (lsP [Lib.decDigits a.size, a.data.toList] ++ r) (n + 1))).2).1) _ _ [], (charsP (wordP (stOf (lsP [Lib.decDigits a.size, a.data.toList] ++ r) (n + 1))).1 (wordP (stOf (lsP [Lib.decDigits a.size, a.data.toList] ++ r) (n + 1))).2).2) = _
      rw [wordP_ls h32 hr]
      show (Trm.mk 3 (bys (charsP (Lib.decDigits a.size) (stOf (lsP [a.data.toList] ++ r) (n + 1))).1) _ _ [], (charsP (Lib.decDigits a.size) (stOf (lsP [a.data.toList] ++ r) (n + 1))).2) = _
      rw [← e3, chars_ls ha hr, cntM, cntL]
      show (Trm.mk 3 (bys a.data.toList) _ _ [], _) = _
      rw [data_bys]
    rw [if_neg h3] at ho
    have hall : (k = 4 ∨ k = 5) ∧ (32 : UInt8) ∉ fm.data.toList ∧ (32 : UInt8) ∉ a.data.toList ∧ (k = 5 → idB v.data.toList = true) ∧ (k = 4 → v.data.toList = []) := by
      by_cases h4 : k = 4
      · rw [if_pos h4] at ho
        simp only [Bool.and_eq_true, decide_eq_true_eq] at ho
        exact ⟨.inl h4, prin_not ho.1.1, lettersB_not (named_all ho.2.1).1, fun e => by omega, fun _ => List.isEmpty_iff.1 ho.2.2⟩
      · rw [if_neg h4] at ho
        by_cases h5 : k = 5
        · rw [if_pos h5] at ho
          simp only [Bool.and_eq_true, decide_eq_true_eq] at ho
          exact ⟨.inr h5, prin_not ho.1.1, lettersB_not (named_all ho.2.1).1, fun _ => ho.2.2.1, fun e => absurd e h4⟩
        · rw [if_neg h5] at ho; cases ho
    obtain ⟨hk, hfs, has, hv5, hv4⟩ := hall
    obtain ⟨f, rfl⟩ : ∃ f', f = f' + 1 := ⟨f - 1, by omega⟩
    -- the first word of the arguments
    obtain ⟨x, xs, ex, hx, hxo, hxa⟩ := args_head ts true
    obtain ⟨y, ys, ey, hy, hyo⟩ : ∃ y ys, (if fm.data.toList.isEmpty then [] else [wAs, fm.data.toList]) ++ x :: xs = y :: ys ∧ (32 : UInt8) ∉ y ∧ y ≠ wOver := by
      by_cases he : fm.data.toList.isEmpty = true
      · exact ⟨x, xs, by rw [if_pos he]; rfl, hx, hxo⟩
      · exact ⟨wAs, fm.data.toList :: x :: xs, by rw [if_neg he]; rfl, by decide, by decide⟩
    have hov := overP_read (v := v.data.toList) hk hv5 hv4 (y := y) (ys := ys) hy hyo hr (n := n + 1)
    have has2 := asP_read (fm := fm.data.toList) hfs (x := x) (xs := xs) hx hxa hr (n := n + 1)
    rw [ey, wordP_ls hy hr] at has2
    rw [prtM, if_neg h1, if_neg h2, if_neg h3, ex, ey]
    show (if (wordP (stOf (lsP (wThe :: a.data.toList :: ((if k = 5 then wOver :: spokenL v.data.toList else []) ++ y :: ys)) ++ r) (n + 1))).1 = wThe then _ else _) = _
    generalize hM : (if k = 5 then wOver :: spokenL v.data.toList else []) ++ y :: ys = M at *
    have e1 : wordP (stOf (lsP (wThe :: a.data.toList :: M) ++ r) (n + 1)) = (wThe, stOf (lsP (a.data.toList :: M) ++ r) (n + 1)) := wordP_ls (by decide) hr
    have e2 : wordP (stOf (lsP (a.data.toList :: M) ++ r) (n + 1)) = (a.data.toList, stOf (lsP M ++ r) (n + 1)) := wordP_ls has hr
    rw [e1]
    show (if wThe = wThe then applyP (f + 1) (stOf (lsP (a.data.toList :: M) ++ r) (n + 1)) else _) = _
    rw [if_pos rfl, applyP]
    simp only [e2, hov, has2, data_bys]
    cases ts with
    | nil =>
      obtain ⟨rfl, rfl⟩ : wEnd = x ∧ [] = xs := by
        have : prtL true [] ++ [wEnd] = [wEnd] := rfl
        rw [this] at ex
        injection ex with h1 h2
        exact ⟨h1, h2⟩
      rw [if_neg (by decide), cntM, cntL]
      rfl
    | cons t ts =>
      obtain ⟨rfl, hxs⟩ : wOf = x ∧ (prtL true (t :: ts)).tail ++ [wEnd] = xs := by
        rw [prtL] at ex ⊢
        injection ex with h1 h2
        exact ⟨h1, h2⟩
      have ih := rp_args (t :: ts) (by simp) true f (n + 1) r hts hr (by omega) (by omega)
      rw [hxs] at ih
      rw [if_pos rfl]
      simp only [ih]
      rw [cntM]
      show (_, (⟨_, _, false || decide (wEnd ≠ wEnd), _⟩ : PS)) = _
      rw [show n + 1 + cntL (t :: ts) = n + (cntL (t :: ts) + 1) by omega]
      rfl
theorem rp_args : ∀ (ts : List Trm) (_ : ts ≠ []) (b : Bool) (f n : Nat) (r : List UInt8), formML ts = true → Cl r → 3 * cntL ts + 1 ≤ f → n + cntL ts ≤ 1000 → argsP f (stOf (lsP ((prtL b ts).tail ++ [wEnd]) ++ r) n) = (ts, wEnd, stOf r (n + cntL ts))
  | [], hne, _, _, _, _, _, _, _, _ => absurd rfl hne
  | t :: ts, _, b, f, n, r, h, hr, hf, hl => by
    rw [cntL] at hf hl
    have hp := cnt_pos t
    obtain ⟨f, rfl⟩ : ∃ f', f = f' + 1 := ⟨f - 1, by omega⟩
    rw [formML, Bool.and_eq_true] at h
    have i1 := rp_text t f n (lsP (prtL false ts ++ [wEnd]) ++ r) h.1 (cl_ls hr) (by omega) (by omega)
    rw [prtL, List.tail_cons, List.append_assoc, lsP_app, List.append_assoc, argsP, if_neg (by show ¬ false = true; simp), i1]
    show (if (wordP (stOf (lsP (prtL false ts ++ [wEnd]) ++ r) (n + cntM t))).1 = wAnd then (t :: (argsP f (wordP (stOf (lsP (prtL false ts ++ [wEnd]) ++ r) (n + cntM t))).2).1, (argsP f (wordP (stOf (lsP (prtL false ts ++ [wEnd]) ++ r) (n + cntM t))).2).2) else ([t], wordP (stOf (lsP (prtL false ts ++ [wEnd]) ++ r) (n + cntM t)))) = _
    cases ts with
    | nil =>
      rw [show prtL false [] ++ [wEnd] = [wEnd] from rfl, wordP_ls (by decide) hr, if_neg (by show ¬ wEnd = wAnd; decide), cntL, cntL]
      rfl
    | cons u us =>
      have hw : prtL false (u :: us) ++ [wEnd] = wAnd :: ((prtL false (u :: us)).tail ++ [wEnd]) := by rw [prtL]; rfl
      rw [hw, wordP_ls (by decide) hr]
      have i2 := rp_args (u :: us) (by simp) false f (n + cntM t) r h.2 hr (by omega) (by omega)
      show (if wAnd = wAnd then (t :: (argsP f (stOf (lsP ((prtL false (u :: us)).tail ++ [wEnd]) ++ r) (n + cntM t))).1, (argsP f (stOf (lsP ((prtL false (u :: us)).tail ++ [wEnd]) ++ r) (n + cntM t))).2) else _) = _
      rw [if_pos rfl, i2, cntL, cntL, cntL]
      simp only [Nat.add_assoc]
end
/-- the program's reader gives the term back, and is content -/
theorem readP_text {t : Trm} (h : validM t = true) : termP 3005 ⟨textM t, false, false, 0⟩ = (t, ⟨[], true, false, cntM t⟩) := by
  unfold validM at h
  rw [Bool.and_eq_true, decide_eq_true_eq] at h
  have hs : (⟨textM t, false, false, 0⟩ : PS) = stOf (lsP (prtM t) ++ []) 0 := by
    obtain ⟨p, ps, e⟩ := prt_ne t
    unfold textM
    rw [e, join_ls, lsP_cons, List.append_nil]
    rfl
  rw [hs, rp_text t 3005 0 [] h.1 (.inl rfl) (by omega) (by omega), Nat.zero_add]
  rfl
/-- what Parse of the program gives -/
def parseP (s : List UInt8) : Option Trm :=
  if (termP 3005 ⟨s, false, false, 0⟩).2.bad = true ∨ (termP 3005 ⟨s, false, false, 0⟩).2.fin = false then none
  else if validM (termP 3005 ⟨s, false, false, 0⟩).1 = true ∧ textM (termP 3005 ⟨s, false, false, 0⟩).1 = s then some (termP 3005 ⟨s, false, false, 0⟩).1 else none
/-- what Parse of the reference gives -/
def parseR (s : List UInt8) : Option Trm :=
  if validM (rdT 2002 1000 s).1 = true ∧ textM (rdT 2002 1000 s).1 = s then some (rdT 2002 1000 s).1 else none
theorem read_text' {t : Trm} (h : validM t = true) : (rdT 2002 1000 (textM t)).1 = t := by
  unfold validM at h
  rw [Bool.and_eq_true, decide_eq_true_eq] at h
  rw [text_tail, rd_text t 2002 1000 [] h.1 (.inl rfl) (by omega) h.2]
theorem parseP_valid {t : Trm} (h : validM t = true) : parseP (textM t) = some t := by
  unfold parseP
  rw [readP_text h]
  rw [if_neg (by simp), if_pos ⟨h, rfl⟩]
theorem parseR_valid {t : Trm} (h : validM t = true) : parseR (textM t) = some t := by
  unfold parseR
  rw [read_text' h, if_pos ⟨h, rfl⟩]
theorem parseP_some {s : List UInt8} {t : Trm} (h : parseP s = some t) : validM t = true ∧ textM t = s := by
  unfold parseP at h
  split at h
  · cases h
  · split at h
    · next hc =>
      injection h with h
      subst h
      exact hc
    · cases h
theorem parseR_some {s : List UInt8} {t : Trm} (h : parseR s = some t) : validM t = true ∧ textM t = s := by
  unfold parseR at h
  split at h
  · next hc =>
    injection h with h
    subst h
    exact hc
  · cases h
theorem parse_same (s : List UInt8) : parseP s = parseR s := by
  cases hp : parseP s with
  | some t =>
    obtain ⟨h1, h2⟩ := parseP_some hp
    rw [← h2, parseR_valid h1]
  | none =>
    cases hr : parseR s with
    | none => rfl
    | some t =>
      obtain ⟨h1, h2⟩ := parseR_some hr
      rw [← h2, parseP_valid h1] at hp
      cases hp
end Go.Proofs.YtpokelkneblafaaGreatDoor
