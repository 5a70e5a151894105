/- Terms, plain: which are valid (the program's count and the reference's size), spoken names, the parts of a spoken text. -/
import Derived.Test.YtpokelkneblafaaGreatDoorTR
import Derived.Lib.Case
import Derived.Lib.ItoaNum
namespace Go.Proofs.YtpokelkneblafaaGreatDoor
/-- a term with its arguments -/
inductive Trm where
  | mk (kind : Int) (nam vr form : ByteArray) (args : List Trm)
def Trm.kind : Trm → Int
  | .mk k _ _ _ _ => k
def Trm.nam : Trm → ByteArray
  | .mk _ a _ _ _ => a
def Trm.vr : Trm → ByteArray
  | .mk _ _ v _ _ => v
def Trm.form : Trm → ByteArray
  | .mk _ _ _ f _ => f
def Trm.args : Trm → List Trm
  | .mk _ _ _ _ ts => ts
mutual
def cntM : Trm → Nat
  | .mk _ _ _ _ ts => cntL ts + 1
def cntL : List Trm → Nat
  | [] => 0
  | t :: ts => cntM t + cntL ts
end
/-- characters from one to ~ -/
def prinL (a : Nat) (l : List UInt8) : Bool := l.all fun c => decide (a ≤ c.toNat) && decide (c.toNat ≤ 126)
/-- an identifier -/
def idB (l : List UInt8) : Bool := namedB l && symB l
/-- an identifier, as the program asks -/
def idP (l : List UInt8) : Bool := !l.isEmpty && (letB (l.headD 0) && symB l)
theorem id_same (l : List UInt8) : idP l = idB l := by
  unfold idP idB
  match l with
  | [] => rfl
  | [c] =>
    rw [show namedB [c] = letB c by simp [namedB, lettersB], show symB [c] = (letB c || hasB signsL c) from rfl]
    show (true && (letB c && _)) = _
    rw [Bool.true_and]
  | c :: d :: r =>
    rw [show symB (c :: d :: r) = (decide (2 ≤ (c :: d :: r).length) && (decide ((c :: d :: r).length ≤ 16) && (lettersB (c :: d :: r) && (!inB keywordsL (c :: d :: r) && !inB accentsL (c :: d :: r))))) from rfl]
    unfold namedB
    rw [show (c :: d :: r).isEmpty = false from rfl, show (c :: d :: r).headD 0 = c from rfl, Bool.not_false, Bool.true_and]
    have h1 : decide (1 ≤ (c :: d :: r).length) = true := by simp
    rw [h1, Bool.true_and]
    cases hl : lettersB (c :: d :: r)
    · simp
    · have hc : letB c = true := by
        unfold lettersB at hl
        rw [List.all_cons, Bool.and_eq_true] at hl
        exact hl.1
      rw [hc, Bool.true_and]
      cases decide ((c :: d :: r).length ≤ 16) <;> simp
/-- whether the fields of a term and the number of its arguments are valid -/
def ownM (k : Int) (a v f : List UInt8) (n : Nat) : Bool :=
  if k = 1 then (v.isEmpty && (f.isEmpty && decide (n = 0))) && numP a
  else if k = 2 then (v.isEmpty && (f.isEmpty && decide (n = 0))) && idB a
  else if k = 3 then (v.isEmpty && (f.isEmpty && decide (n = 0))) && (prinL 32 a && decide (a.length ≤ 200))
  else if k = 4 then (prinL 33 f && decide (f.length ≤ 16)) && (namedB a && v.isEmpty)
  else if k = 5 then (prinL 33 f && decide (f.length ≤ 16)) && (namedB a && (idB v && decide (0 < n)))
  else false
mutual
def formM : Trm → Bool
  | .mk k a v f ts => ownM k a.data.toList v.data.toList f.data.toList ts.length && formML ts
def formML : List Trm → Bool
  | [] => true
  | t :: ts => formM t && formML ts
end
def validM (t : Trm) : Bool := formM t && decide (cntM t ≤ 1000)
mutual
/-- the program's check: whether a term is valid, and the number of terms so far -/
def chkM : Trm → Nat → Bool × Nat
  | .mk k a v f ts, n => if 1000 < n + 1 ∨ ownM k a.data.toList v.data.toList f.data.toList ts.length = false then (false, n + 1) else chkML ts (n + 1)
def chkML : List Trm → Nat → Bool × Nat
  | [], n => (true, n)
  | t :: ts, n => if (chkM t n).1 then chkML ts (chkM t n).2 else (false, (chkM t n).2)
end
mutual
theorem chkM_iff : ∀ (t : Trm) (n : Nat), ((chkM t n).1 = true ↔ formM t = true ∧ n + cntM t ≤ 1000) ∧ ((chkM t n).1 = true → (chkM t n).2 = n + cntM t)
  | .mk k a v f ts, n => by
    unfold chkM formM cntM
    by_cases h : 1000 < n + 1 ∨ ownM k a.data.toList v.data.toList f.data.toList ts.length = false
    · rw [if_pos h]
      refine ⟨⟨fun e => by simp at e, fun ⟨h1, h2⟩ => ?_⟩, fun e => by simp at e⟩
      rw [Bool.and_eq_true] at h1
      rcases h with h | h
      · omega
      · rw [h] at h1; simp at h1
    · rw [if_neg h]
      simp only [not_or, Bool.not_eq_false] at h
      obtain ⟨g1, g2⟩ := h
      obtain ⟨i1, i2⟩ := chkML_iff ts (n + 1) (by omega)
      rw [g2, Bool.true_and]
      refine ⟨i1.trans ⟨fun ⟨a, b⟩ => ⟨a, by omega⟩, fun ⟨a, b⟩ => ⟨a, by omega⟩⟩, fun e => ?_⟩
      rw [i2 e]
      omega
theorem chkML_iff : ∀ (ts : List Trm) (n : Nat), n ≤ 1000 → ((chkML ts n).1 = true ↔ formML ts = true ∧ n + cntL ts ≤ 1000) ∧ ((chkML ts n).1 = true → (chkML ts n).2 = n + cntL ts)
  | [], n, hn => by
    unfold chkML formML cntL
    simp
    omega
  | t :: ts, n, hn => by
    unfold chkML formML cntL
    obtain ⟨a1, a2⟩ := chkM_iff t n
    cases hc : (chkM t n).1
    · rw [if_neg (by simp)]
      rw [hc] at a1
      refine ⟨⟨fun e => by simp at e, fun ⟨h1, h2⟩ => ?_⟩, fun e => by simp at e⟩
      simp only [Bool.and_eq_true] at h1
      have := a1.2 ⟨h1.1, by omega⟩
      cases this
    · rw [if_pos rfl]
      obtain ⟨f1, f2⟩ := a1.1 hc
      have e2 := a2 hc
      rw [e2]
      obtain ⟨b1, b2⟩ := chkML_iff ts (n + cntM t) f2
      rw [f1, Bool.true_and]
      refine ⟨b1.trans ⟨fun ⟨p, q⟩ => ⟨p, by omega⟩, fun ⟨p, q⟩ => ⟨p, by omega⟩⟩, fun e => ?_⟩
      rw [b2 e]
      omega
end
theorem validM_chk (t : Trm) : (chkM t 0).1 = validM t := by
  unfold validM
  rw [Bool.eq_iff_iff, (chkM_iff t 0).1, Bool.and_eq_true, decide_eq_true_eq, Nat.zero_add]
theorem chk_count {t : Trm} (h : validM t = true) : (chkM t 0).2 = cntM t := by
  rw [(chkM_iff t 0).2 (by rw [validM_chk, h]), Nat.zero_add]
theorem cnt_pos (t : Trm) : 1 ≤ cntM t := by cases t; rw [cntM]; omega
theorem cnt_arg : ∀ {ts : List Trm} {i : Nat} {t : Trm}, ts[i]? = some t → cntM t ≤ cntL ts
  | [], i, t, h => by simp at h
  | x :: r, 0, t, h => by simp at h; subst h; rw [cntL]; omega
  | x :: r, i + 1, t, h => by rw [List.getElem?_cons_succ] at h; have := cnt_arg h; rw [cntL]; omega
theorem cntL_snoc {ks : List Trm} {k : Nat} {x : Trm} (h : ks[k]? = some x) : cntL (ks.take (k + 1)) = cntL (ks.take k) + cntM x := by
  rw [List.take_add_one, h, Option.toList]
  generalize ks.take k = l
  induction l with
  | nil => simp [cntL]
  | cons a r ih => rw [List.cons_append, cntL, cntL, ih]; omega
theorem cntL_take (ks : List Trm) (k : Nat) : cntL (ks.take k) ≤ cntL ks := by
  induction ks generalizing k with
  | nil => simp [cntL]
  | cons a r ih =>
    cases k with
    | zero => simp [cntL]
    | succ k => rw [List.take_succ_cons, cntL, cntL]; have := ih k; omega
theorem len_cntL (ks : List Trm) : ks.length ≤ cntL ks := by
  induction ks with
  | nil => simp
  | cons a r ih => rw [List.length_cons, cntL]; have := cnt_pos a; omega
theorem formML_snoc {ks : List Trm} {k : Nat} {x : Trm} (h : ks[k]? = some x) : formML (ks.take (k + 1)) = (formML (ks.take k) && formM x) := by
  rw [List.take_add_one, h, Option.toList]
  generalize ks.take k = l
  induction l with
  | nil => simp [formML]
  | cons a r ih => rw [List.cons_append, formML, formML, ih]; simp [Bool.and_assoc]
theorem formML_false {ks : List Trm} {k : Nat} (h : formML (ks.take k) = false) : formML ks = false := by
  induction ks generalizing k with
  | nil => rw [List.take_nil] at h; rw [formML] at h; cases h
  | cons a r ih =>
    cases k with
    | zero => rw [List.take_zero, formML] at h; cases h
    | succ k =>
      rw [List.take_succ_cons, formML] at h
      rw [formML]
      cases ha : formM a
      · rfl
      · rw [ha, Bool.true_and] at h
        rw [ih h]; rfl
theorem formML_at : ∀ {ts : List Trm} {i : Nat} {t : Trm}, formML ts = true → ts[i]? = some t → formM t = true
  | [], i, t, _, h => by simp at h
  | x :: r, 0, t, hf, h => by simp at h; subst h; rw [formML, Bool.and_eq_true] at hf; exact hf.1
  | x :: r, i + 1, t, hf, h => by rw [List.getElem?_cons_succ] at h; rw [formML, Bool.and_eq_true] at hf; exact formML_at hf.2 h
/-- the reference's size of a term -/
def sizM (t : Trm) : Int := if formM t = true ∧ cntM t ≤ 1000 then (cntM t : Int) else -1
theorem siz_valid (t : Trm) : decide (0 < sizM t) = validM t := by
  unfold sizM validM
  have := cnt_pos t
  by_cases h : formM t = true ∧ cntM t ≤ 1000
  · rw [if_pos h, h.1, decide_eq_true h.2]; simp; omega
  · rw [if_neg h]
    cases hf : formM t
    · rfl
    · rw [Bool.true_and, decide_eq_false (fun h2 => h ⟨hf, h2⟩)]; rfl
/-- the words of spoken texts -/
def wThe : List UInt8 := [116, 104, 101]
def wText : List UInt8 := [116, 101, 120, 116]
def wOver : List UInt8 := [111, 118, 101, 114]
def wAs : List UInt8 := [97, 115]
def wOf : List UInt8 := [111, 102]
def wAnd : List UInt8 := [97, 110, 100]
def wEnd : List UInt8 := [101, 110, 100]
def wName : List UInt8 := [110, 97, 109, 101]
def wCap : List UInt8 := [99, 97, 112, 105, 116, 97, 108]
/-- the spoken name of a string -/
def nameL (l : List UInt8) : List UInt8 :=
  if idB l = true then (if 1 < l.length then wName ++ 32 :: l else if (l.headD 0).toNat ≤ 90 then wCap ++ 32 :: Lib.toLowerA l else l) else []
/-- the parts of the spoken name of a string -/
def spokenL (l : List UInt8) : List (List UInt8) :=
  if idB l = true then (if 1 < l.length then [wName, l] else if (l.headD 0).toNat ≤ 90 then [wCap, Lib.toLowerA l] else [l]) else [[]]
theorem let_not {c : UInt8} (h : letB c = true) : c ≠ 32 := by
  rintro rfl
  revert h
  decide
theorem lettersB_not {l : List UInt8} (h : lettersB l = true) : (32 : UInt8) ∉ l := fun hm => let_not (List.all_eq_true.1 h 32 hm) rfl
theorem id_named {l : List UInt8} (h : idB l = true) : lettersB l = true ∧ 1 ≤ l.length ∧ l.length ≤ 16 := by
  unfold idB namedB at h
  simp only [Bool.and_eq_true, decide_eq_true_eq] at h
  exact ⟨h.1.1, h.1.2.1, h.1.2.2⟩
theorem named_all {l : List UInt8} (h : namedB l = true) : lettersB l = true ∧ 1 ≤ l.length ∧ l.length ≤ 16 := by
  unfold namedB at h
  simp only [Bool.and_eq_true, decide_eq_true_eq] at h
  exact ⟨h.1, h.2.1, h.2.2⟩
theorem lower_let {c : UInt8} (h : letB c = true) : letB (Lib.lowerB c) = true := by
  have : ∀ n : Nat, n < 256 → letB (UInt8.ofNat n) = true → letB (Lib.lowerB (UInt8.ofNat n)) = true := by decide +kernel
  have := this c.toNat c.toNat_lt
  rw [UInt8.ofNat_toNat] at this
  exact this h
theorem lower_letters {l : List UInt8} (h : lettersB l = true) : lettersB (Lib.toLowerA l) = true := by
  unfold lettersB Lib.toLowerA at *
  rw [List.all_eq_true] at *
  intro x hx
  obtain ⟨y, hy, rfl⟩ := List.mem_map.1 hx
  exact lower_let (h y hy)
theorem spoken_split (l : List UInt8) : splitL 32 (nameL l) = spokenL l := by
  unfold nameL spokenL
  by_cases h : idB l = true
  · rw [if_pos h, if_pos h]
    obtain ⟨hl, h1, h2⟩ := id_named h
    by_cases hn : 1 < l.length
    · rw [if_pos hn, if_pos hn, splitL_app (by decide), splitL_none (lettersB_not hl)]
    · rw [if_neg hn, if_neg hn]
      by_cases hu : (l.headD 0).toNat ≤ 90
      · rw [if_pos hu, if_pos hu, splitL_app (by decide), splitL_none (lettersB_not (lower_letters hl))]
      · rw [if_neg hu, if_neg hu, splitL_none (lettersB_not hl)]
  · rw [if_neg h, if_neg h]; rfl
mutual
/-- the parts of the spoken text of a term -/
def prtM : Trm → List (List UInt8)
  | .mk k a v f ts =>
    if k = 1 then [a.data.toList] else if k = 2 then spokenL a.data.toList else if k = 3 then [wText, Lib.decDigits a.size, a.data.toList]
    else [wThe, a.data.toList] ++ ((if k = 5 then wOver :: spokenL v.data.toList else []) ++ ((if f.data.toList.isEmpty then [] else [wAs, f.data.toList]) ++ (prtL true ts ++ [wEnd])))
def prtL : Bool → List Trm → List (List UInt8)
  | _, [] => []
  | b, t :: ts => (if b then wOf else wAnd) :: (prtM t ++ prtL false ts)
end
def textM (t : Trm) : List UInt8 := Lib.join (prtM t) [32]
end Go.Proofs.YtpokelkneblafaaGreatDoor
