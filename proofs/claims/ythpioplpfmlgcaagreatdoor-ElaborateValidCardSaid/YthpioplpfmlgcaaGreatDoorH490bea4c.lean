/- Whether tokens are valid, on both sides · Terms, plain: which are valid (the program's count and the reference's size), spoken names, the parts of a spoken text · Meanings of trees, plain: what the program and the reference compute · A map from strings to bool that the call has made: a look-up, an entry of a literal; for every program · line and Text: the text of valid rules · Symbols, of the program and of the reference -/
import Derived.Test.YthpioplpfmlgcaaGreatDoorHed6c1017
import Derived.Test.YthpioplpfmlgcaaGreatDoorHd6791209
import Derived.Lib.Case
import Derived.Lib.ItoaNum
import Derived.Test.YthpioplpfmlgcaaGreatDoorH95b2a9f9
import Derived.Maps.OwnOps
import Derived.Maps.OwnSet
import Derived.Maps.Views
import Derived.StringKeys
import Derived.Lib.Hide
import Derived.Test.YthpioplpfmlgcaaGreatDoorH64d930c9
import Derived.Lib.SmallJoins
import Derived.Lib.ItoaLen
import Derived.Lib.Join
import Derived.Shelf.Strings.BuilderK
import Derived.Deep.WholeRow
namespace Go.Proofs.YthpioplpfmlgcaaGreatDoor.Ch
open Go.RowKit
def tokOK (s : ByteArray) : Bool := s.toList == opndL || symB s.toList
def toksB (ts : List ByteArray) : Bool := decide (ts.length ≤ 200) && ts.all tokOK
theorem toks_step {ts : List ByteArray} {k : Nat} {s : ByteArray} (hs : ts[k]? = some s) (h : ∀ (j : Nat) t, ts[j]? = some t → j < k → tokOK t = true) (hq : tokOK s = true) : ∀ (j : Nat) t, ts[j]? = some t → j < k + 1 → tokOK t = true := fun j t hj hlt => by
  rcases Nat.lt_or_ge j k with h' | h'
  · exact h j t hj h'
  · obtain rfl : j = k := by omega
    rw [hs] at hj
    obtain rfl := Option.some.inj hj
    exact hq
theorem toks_bad {ts : List ByteArray} {k : Nat} {s : ByteArray} (hs : ts[k]? = some s) (hq : tokOK s = false) : toksB ts = false := by
  unfold toksB
  have : ts.all tokOK = false := List.all_eq_false.2 ⟨s, List.mem_of_getElem? hs, by rw [hq]; simp⟩
  rw [this, Bool.and_false]
theorem toks_all {ts : List ByteArray} (h : ∀ (j : Nat) t, ts[j]? = some t → j < ts.length → tokOK t = true) : toksB ts = decide (ts.length ≤ 200) := by
  unfold toksB
  have : ts.all tokOK = true := List.all_eq_true.2 fun s hs => by
    obtain ⟨j, hj⟩ := List.mem_iff_getElem?.1 hs
    exact h j s hj (List.getElem?_eq_some_iff.1 hj).1
  rw [this, Bool.and_true]
theorem opnd_ok {s : ByteArray} (h : s.toList = opndL) : tokOK s = true := by unfold tokOK; rw [h]; rfl
theorem opnd_no {s : ByteArray} (h : ¬ s.toList = opndL) : tokOK s = symB s.toList := by
  unfold tokOK
  rw [show (s.toList == opndL) = false from beq_eq_false_iff_ne.2 h, Bool.false_or]
set_option maxRecDepth 100000 in
set_option maxHeartbeats 2000000 in
theorem tvalid_any (T : Option Addr) (cT : Nat) (ts : List ByteArray) (w : World) (hT : ToksAt w T ts) : Calls Tryz.prog 85 #[.slice T ts.length cT] w fun e w' => e = .returned (.bool (toksB ts)) ∧ Below w.heap.size w w' := by
  have HT := Lib.hid hT
  clear hT
  by_cases hl : 200 < ts.length
  · have HQ := Lib.hid (show toksB ts = false by unfold toksB; rw [decide_eq_false (by omega)]; rfl)
    go_enter Tryz.func85, Tryz.ntmps85
    go_wp2_with fail
    go_ret
    exact ⟨ret_bool HQ.out.symm, Below.refl _ _⟩
  · have HQ := Lib.hid (@toks_all ts)
    rw [decide_eq_true (show ts.length ≤ 200 by omega)] at HQ
    go_enter Tryz.func85, Tryz.ntmps85
    go_wp2_with fail
    go_loopw [10] (fun i wr => ∃ k : Nat, k ≤ ts.length ∧ i = .int .i64 k ∧ Hid (∀ (j : Nat) t, ts[j]? = some t → j < k → tokOK t = true) ∧ Hid (ToksAt wr T ts) ∧ Hid (Below w.heap.size w wr)) (fun i _ => ts.length - (intOf i).toNat)
    case atStart => exact ⟨0, by omega, rfl, (fun j _ _ h => by omega), HT, Below.refl _ _⟩
    case round =>
      clear HT
      obtain ⟨k, hk, rfl, HJ, HT, H0⟩ := hrel
      by_cases hlt : k < ts.length
      · obtain ⟨s, hs⟩ : ∃ s, ts[k]? = some s := ⟨_, List.getElem?_eq_getElem hlt⟩
        obtain ⟨hf, ad, rfl, hadl, c0⟩ := HT.out k s hs
        have HS := Lib.hid hs
        have HF := Lib.hid hf
        clear hs hf hadl
        by_cases hq : s.toList = opndL
        · have HO := Lib.hid (toks_step HS.out HJ.out (opnd_ok hq))
          have hq2 : (s.toList == opndL) = true := beq_iff_eq.2 hq
          unfold opndL at hq2 hq
          clear HJ
          go_wp2_with fail
          go_roundw
          case rel => exact ⟨k + 1, by omega, by go_num, HO, HT, H0⟩
          case measure => simp [intOf]; omega
        · have HNO := Lib.hid (opnd_no hq)
          have hq2 : (s.toList == opndL) = false := beq_eq_false_iff_ne.2 hq
          unfold opndL at hq2
          clear hq
          go_wp2_with fail
          refine (sym_any s _ HF.out).mono ?_
          rintro e w1 ⟨rfl, hb⟩
          have NT := Lib.hid (HT.out.keep hb)
          have NB := Lib.hid (H0.out.trans (hb.mono H0.out.size))
          clear HT H0 hb c0
          cases hy : symB s.toList
          · rw [hy] at HNO
            have HBAD := Lib.hid (toks_bad HS.out HNO.out)
            clear hy
            go_wp2_with fail
            go_ret
            exact ⟨ret_bool HBAD.out.symm, NB.out⟩
          · rw [hy] at HNO
            have HO := Lib.hid (toks_step HS.out HJ.out HNO.out)
            clear hy HJ
            go_wp2_with fail
            go_roundw
            case rel => exact ⟨k + 1, by omega, by go_num, HO, NT, NB⟩
            case measure => simp [intOf]; omega
      · obtain rfl : k = ts.length := by omega
        go_wp2_with fail
        go_ret
        exact ⟨ret_bool (HQ.out HJ.out).symm, H0.out⟩
end Go.Proofs.YthpioplpfmlgcaaGreatDoor.Ch
namespace Go.Proofs.YthpioplpfmlgcaaGreatDoor.Sp
open Go.Proofs.YthpioplpfmlgcaaGreatDoor.At
/-- a term with its arguments -/
inductive Trm where
  | mk (kind : Int) (nam vr form : ByteArray) (args : List Trm)
def Trm.kind : Trm → Int
  | .mk k _ _ _ _ => k
def Trm.nam : Trm → ByteArray
  | .mk _ a _ _ _ => a
def Trm.vr : Trm → ByteArray
  | .mk _ _ v _ _ => v
def Trm.form : Trm → ByteArray
  | .mk _ _ _ f _ => f
def Trm.args : Trm → List Trm
  | .mk _ _ _ _ ts => ts
mutual
def cntM : Trm → Nat
  | .mk _ _ _ _ ts => cntL ts + 1
def cntL : List Trm → Nat
  | [] => 0
  | t :: ts => cntM t + cntL ts
end
/-- characters from one to ~ -/
def prinL (a : Nat) (l : List UInt8) : Bool := l.all fun c => decide (a ≤ c.toNat) && decide (c.toNat ≤ 126)
/-- an identifier -/
def idB (l : List UInt8) : Bool := namedB l && symB l
/-- an identifier, as the program asks -/
def idP (l : List UInt8) : Bool := !l.isEmpty && (letB (l.headD 0) && symB l)
theorem id_same (l : List UInt8) : idP l = idB l := by
  unfold idP idB
  match l with
  | [] => rfl
  | [c] =>
    rw [show namedB [c] = letB c by simp [namedB, lettersB], show symB [c] = (letB c || hasB signsL c) from rfl]
    show (true && (letB c && _)) = _
    rw [Bool.true_and]
  | c :: d :: r =>
    rw [show symB (c :: d :: r) = (decide (2 ≤ (c :: d :: r).length) && (decide ((c :: d :: r).length ≤ 16) && (lettersB (c :: d :: r) && (!inB keywordsL (c :: d :: r) && !inB accentsL (c :: d :: r))))) from rfl]
    unfold namedB
    rw [show (c :: d :: r).isEmpty = false from rfl, show (c :: d :: r).headD 0 = c from rfl, Bool.not_false, Bool.true_and]
    have h1 : decide (1 ≤ (c :: d :: r).length) = true := by simp
    rw [h1, Bool.true_and]
    cases hl : lettersB (c :: d :: r)
    · simp
    · have hc : letB c = true := by
        unfold lettersB at hl
        rw [List.all_cons, Bool.and_eq_true] at hl
        exact hl.1
      rw [hc, Bool.true_and]
      cases decide ((c :: d :: r).length ≤ 16) <;> simp
/-- whether the fields of a term and the number of its arguments are valid -/
def ownM (k : Int) (a v f : List UInt8) (n : Nat) : Bool :=
  if k = 1 then (v.isEmpty && (f.isEmpty && decide (n = 0))) && numP a
  else if k = 2 then (v.isEmpty && (f.isEmpty && decide (n = 0))) && idB a
  else if k = 3 then (v.isEmpty && (f.isEmpty && decide (n = 0))) && (prinL 32 a && decide (a.length ≤ 200))
  else if k = 4 then (prinL 33 f && decide (f.length ≤ 16)) && (namedB a && v.isEmpty)
  else if k = 5 then (prinL 33 f && decide (f.length ≤ 16)) && (namedB a && (idB v && decide (0 < n)))
  else false
mutual
def formM : Trm → Bool
  | .mk k a v f ts => ownM k a.data.toList v.data.toList f.data.toList ts.length && formML ts
def formML : List Trm → Bool
  | [] => true
  | t :: ts => formM t && formML ts
end
def validM (t : Trm) : Bool := formM t && decide (cntM t ≤ 1000)
mutual
/-- the program's check: whether a term is valid, and the number of terms so far -/
def chkM : Trm → Nat → Bool × Nat
  | .mk k a v f ts, n => if 1000 < n + 1 ∨ ownM k a.data.toList v.data.toList f.data.toList ts.length = false then (false, n + 1) else chkML ts (n + 1)
def chkML : List Trm → Nat → Bool × Nat
  | [], n => (true, n)
  | t :: ts, n => if (chkM t n).1 then chkML ts (chkM t n).2 else (false, (chkM t n).2)
end
mutual
theorem chkM_iff : ∀ (t : Trm) (n : Nat), ((chkM t n).1 = true ↔ formM t = true ∧ n + cntM t ≤ 1000) ∧ ((chkM t n).1 = true → (chkM t n).2 = n + cntM t)
  | .mk k a v f ts, n => by
    unfold chkM formM cntM
    by_cases h : 1000 < n + 1 ∨ ownM k a.data.toList v.data.toList f.data.toList ts.length = false
    · rw [if_pos h]
      refine ⟨⟨fun e => by simp at e, fun ⟨h1, h2⟩ => ?_⟩, fun e => by simp at e⟩
      rw [Bool.and_eq_true] at h1
      rcases h with h | h
      · omega
      · rw [h] at h1; simp at h1
    · rw [if_neg h]
      simp only [not_or, Bool.not_eq_false] at h
      obtain ⟨g1, g2⟩ := h
      obtain ⟨i1, i2⟩ := chkML_iff ts (n + 1) (by omega)
      rw [g2, Bool.true_and]
      refine ⟨i1.trans ⟨fun ⟨a, b⟩ => ⟨a, by omega⟩, fun ⟨a, b⟩ => ⟨a, by omega⟩⟩, fun e => ?_⟩
      rw [i2 e]
      omega
theorem chkML_iff : ∀ (ts : List Trm) (n : Nat), n ≤ 1000 → ((chkML ts n).1 = true ↔ formML ts = true ∧ n + cntL ts ≤ 1000) ∧ ((chkML ts n).1 = true → (chkML ts n).2 = n + cntL ts)
  | [], n, hn => by
    unfold chkML formML cntL
    simp
    omega
  | t :: ts, n, hn => by
    unfold chkML formML cntL
    obtain ⟨a1, a2⟩ := chkM_iff t n
    cases hc : (chkM t n).1
    · rw [if_neg (by simp)]
      rw [hc] at a1
      refine ⟨⟨fun e => by simp at e, fun ⟨h1, h2⟩ => ?_⟩, fun e => by simp at e⟩
      simp only [Bool.and_eq_true] at h1
      have := a1.2 ⟨h1.1, by omega⟩
      cases this
    · rw [if_pos rfl]
      obtain ⟨f1, f2⟩ := a1.1 hc
      have e2 := a2 hc
      rw [e2]
      obtain ⟨b1, b2⟩ := chkML_iff ts (n + cntM t) f2
      rw [f1, Bool.true_and]
      refine ⟨b1.trans ⟨fun ⟨p, q⟩ => ⟨p, by omega⟩, fun ⟨p, q⟩ => ⟨p, by omega⟩⟩, fun e => ?_⟩
      rw [b2 e]
      omega
end
theorem validM_chk (t : Trm) : (chkM t 0).1 = validM t := by
  unfold validM
  rw [Bool.eq_iff_iff, (chkM_iff t 0).1, Bool.and_eq_true, decide_eq_true_eq, Nat.zero_add]
theorem chk_count {t : Trm} (h : validM t = true) : (chkM t 0).2 = cntM t := by
  rw [(chkM_iff t 0).2 (by rw [validM_chk, h]), Nat.zero_add]
theorem cnt_pos (t : Trm) : 1 ≤ cntM t := by cases t; rw [cntM]; omega
theorem cnt_arg : ∀ {ts : List Trm} {i : Nat} {t : Trm}, ts[i]? = some t → cntM t ≤ cntL ts
  | [], i, t, h => by simp at h
  | x :: r, 0, t, h => by simp at h; subst h; rw [cntL]; omega
  | x :: r, i + 1, t, h => by rw [List.getElem?_cons_succ] at h; have := cnt_arg h; rw [cntL]; omega
end Go.Proofs.YthpioplpfmlgcaaGreatDoor.Sp
namespace Go.Proofs.YthpioplpfmlgcaaGreatDoor.El
open Go.Proofs.YthpioplpfmlgcaaGreatDoor.At
open Go.Proofs.YthpioplpfmlgcaaGreatDoor.Ch
open Go.Proofs.YthpioplpfmlgcaaGreatDoor.Sp
/-- a value, or an error with a position -/
inductive Mea (α : Type) where
  | ok (a : α)
  | bad (e : Int) (pos : List Int)
def Mea.then_ {α β : Type} (m : Mea α) (f : α → Mea β) : Mea β := match m with
  | .ok a => f a
  | .bad e p => .bad e p
/-- whether a string is the symbol of a rule -/
def hasSy (rs : List Rul) (s : List UInt8) : Bool := !s.isEmpty && rs.any fun r => decide (r.sym.data.toList = s)
/-- an item without its scripts, if its base is one item -/
def unsc (n : Tre) : Tre := if n.kind = 7 ∨ n.kind = 8 ∨ n.kind = 9 then (match n.kids with
  | b :: _ => match b.kids with
    | [x] => x
    | _ => n
  | [] => n) else n
def operB (rs : List Rul) (n : Tre) : Bool := decide ((unsc n).kind = 2) && hasSy rs (unsc n).text.data.toList
def hashS : ByteArray := ⟨#[35]⟩
/-- the token of an item, if it has a role -/
def tokN (rs : List Rul) (n : Tre) : Option ByteArray :=
  if operB rs n = true then some (unsc n).text else if n.kind = 2 ∧ idB n.text.data.toList = false then none else some hashS
/-- the tokens of items, or the index of the first one without a role -/
def toksN (rs : List Rul) : List Tre → Sum (List ByteArray) Nat
  | [] => .inl []
  | n :: ns => match tokN rs n with
    | none => .inr 0
    | some t => match toksN rs ns with
      | .inl ts => .inl (t :: ts)
      | .inr i => .inr (i + 1)
/-- the kind of a rule -/
def kndR (rs : List Rul) (r : Int) : Int := match rs[r.toNat]? with
  | some x => x.kind
  | none => 0
def kidAt (ks : List Rd) : Int := match ks with
  | _ :: k :: _ => k.at_
  | _ => 0
/-- the index of the operator of a reading that ends ahead of an index, or -1 -/
def opI (rs : List Rul) (x : Rd) (fin : Int) : Int :=
  if kndR rs x.rule = 1 then kidAt x.kids - 1 else if kndR rs x.rule = 2 then x.at_ else if kndR rs x.rule = 3 then fin - 1 else -1
/-- where its kids end -/
def endsI (rs : List Rul) (x : Rd) (fin : Int) : List Int :=
  if kndR rs x.rule = 1 then [kidAt x.kids - 1, fin] else if kndR rs x.rule = 2 then [fin] else if kndR rs x.rule = 3 then [fin - 1] else [kidAt x.kids, fin]
mutual
/-- the rule of each operator of a reading -/
def asgR (rs : List Rul) : Rd → Int → List (Int × Int)
  | .mk r a ks, fin => if r < 0 then [] else (if 0 ≤ opI rs (.mk r a ks) fin then [(opI rs (.mk r a ks) fin, r)] else []) ++ asgL rs ks (endsI rs (.mk r a ks) fin)
def asgL (rs : List Rul) : List Rd → List Int → List (Int × Int)
  | k :: ks, e :: es => asgR rs k e ++ asgL rs ks es
  | _, _ => []
end
/-- the rules of the tokens, as an array holds them behind the writes -/
def ruleA (ws : List (Int × Int)) (n : Nat) : List Int := ws.foldl (fun l p => l.set p.1.toNat p.2) (List.replicate n 0)
/-- what an item means: an operand, or the scripts of an operator, with the ending of the form, and the variable that it binds -/
structure Prt where
  opnd : Trm
  scr : List Trm
  fin : ByteArray
  vr : ByteArray
def zerT : Trm := .mk 0 ⟨#[]⟩ ⟨#[]⟩ ⟨#[]⟩ []
def zerP : Prt := ⟨zerT, [], ⟨#[]⟩, ⟨#[]⟩⟩
def infS : ByteArray := ⟨#[105, 110, 102, 105, 120]⟩
def preS : ByteArray := ⟨#[112, 114, 101, 102, 105, 120]⟩
def posS : ByteArray := ⟨#[112, 111, 115, 116, 102, 105, 120]⟩
def juxS : ByteArray := ⟨#[106, 117, 120, 116, 97, 112, 111, 115, 101]⟩
def bindS : ByteArray := ⟨#[98, 105, 110, 100]⟩
def formS (k : Int) : ByteArray := if k = 1 then infS else if k = 2 then preS else if k = 3 then posS else juxS
/-- a term of an operator -/
def mkOp (nam : ByteArray) (k : Int) (p : Option Prt) (args : List Trm) : Trm := match p with
  | none => .mk 4 nam ⟨#[]⟩ (formS k) args
  | some p => if p.vr.data.toList = [] then .mk 4 nam ⟨#[]⟩ (formS k ++ p.fin) (p.scr ++ args) else .mk 5 nam p.vr (bindS ++ p.fin) (p.scr ++ args)
def nameR (rs : List Rul) (r : Int) : ByteArray := match rs[r.toNat]? with
  | some x => x.nam
  | none => ⟨#[]⟩
mutual
/-- the term of a reading that ends ahead of an index -/
def trmR (rs : List Rul) (ps : List Prt) : Rd → Int → Trm
  | .mk r a ks, fin => if r < 0 then (match ps[a.toNat]? with
      | some p => p.opnd
      | none => zerT) else mkOp (nameR rs r) (kndR rs r) (if 0 ≤ opI rs (.mk r a ks) fin then ps[(opI rs (.mk r a ks) fin).toNat]? else none) (trmL rs ps ks (endsI rs (.mk r a ks) fin))
def trmL (rs : List Rul) (ps : List Prt) : List Rd → List Int → List Trm
  | k :: ks, e :: es => trmR rs ps k e :: trmL rs ps ks es
  | _, _ => []
end
/-- the variable that the subscript of an operator binds -/
def bindN (rs : List Rul) (sub : Tre) : Option ByteArray := match sub.kids with
  | a :: b :: _ :: _ => if (a.kind = 2 ∧ idB a.text.data.toList = true ∧ hasSy rs a.text.data.toList = false) ∧ b.kind = 2 ∧ b.text.data.toList = [61] then some a.text else none
  | _ => none
def subS : ByteArray := ⟨#[115, 117, 98]⟩
def supS : ByteArray := ⟨#[115, 117, 112]⟩
def bothS : ByteArray := ⟨#[98, 111, 116, 104]⟩
def divS : ByteArray := ⟨#[100, 105, 118, 105, 100, 101]⟩
def fracS : ByteArray := ⟨#[102, 114, 97, 99]⟩
def sqrtS : ByteArray := ⟨#[115, 113, 114, 116]⟩
def rootS : ByteArray := ⟨#[114, 111, 111, 116]⟩
def indS : ByteArray := ⟨#[105, 110, 100, 101, 120]⟩
def powS : ByteArray := ⟨#[112, 111, 119, 101, 114]⟩
def ipowS : ByteArray := ⟨#[105, 110, 100, 101, 120, 112, 111, 119, 101, 114]⟩
def accS : ByteArray := ⟨#[97, 99, 99, 101, 110, 116]⟩
def matS : ByteArray := ⟨#[109, 97, 116, 114, 105, 120]⟩
def fenS : ByteArray := ⟨#[102, 101, 110, 99, 101]⟩
def absS : ByteArray := ⟨#[97, 98, 115]⟩
def grpS : ByteArray := ⟨#[103, 114, 111, 117, 112]⟩
def endS (k : Int) : ByteArray := if k = 7 then subS else if k = 8 then supS else bothS
/-- the name and the form of an operand with slots -/
def shapeN (n : Tre) : ByteArray × ByteArray :=
  if n.kind = 5 then (divS, fracS)
  else if n.kind = 6 then ((match n.kids with
    | d :: _ => if d.kids.isEmpty then sqrtS else rootS
    | [] => rootS), rootS)
  else if n.kind = 7 then (indS, subS) else if n.kind = 8 then (powS, supS) else if n.kind = 9 then (ipowS, bothS)
  else if n.kind = 10 then (n.text, accS)
  else if n.kind = 12 then (matS, matS ++ bys (Lib.decDigits n.cols.toNat))
  else ((if n.text.data.toList = [124, 124] then absS else grpS), fenS ++ n.text)
/-- the meanings of slots; M: of a list; s: the index of the first slot; b: where it begins -/
def slotsF (M : List Tre → List Int → Nat → Mea Trm) (path : List Int) : List Tre → Nat → Nat → Mea (List Trm)
  | [], _, _ => .ok []
  | n :: ns, s, b => (M n.kids (path ++ [(s : Int)]) b).then_ fun t => (slotsF M path ns (s + 1) 0).then_ fun ts => .ok (t :: ts)
/-- the meaning of an operand -/
def opndF (M : List Tre → List Int → Nat → Mea Trm) (n : Tre) (path : List Int) : Mea Prt :=
  if n.kind = 2 then .ok ⟨.mk 2 n.text ⟨#[]⟩ ⟨#[]⟩ [], [], ⟨#[]⟩, ⟨#[]⟩⟩
  else if n.kind = 3 then .ok ⟨.mk 1 n.text ⟨#[]⟩ ⟨#[]⟩ [], [], ⟨#[]⟩, ⟨#[]⟩⟩
  else if n.kind = 4 then .ok ⟨.mk 3 n.text ⟨#[]⟩ ⟨#[]⟩ [], [], ⟨#[]⟩, ⟨#[]⟩⟩
  else ((match n.kids with
    | d :: ks => if n.kind = 6 ∧ d.kids.isEmpty = true then slotsF M path ks 1 0 else slotsF M path (d :: ks) 0 0
    | [] => .ok []) : Mea (List Trm)).then_ fun ts => .ok ⟨.mk 4 (shapeN n).1 ⟨#[]⟩ (shapeN n).2 ts, [], ⟨#[]⟩, ⟨#[]⟩⟩
/-- the variable that an operator with scripts binds; p: whether its rule is a prefix rule -/
def varN (rs : List Rul) (n : Tre) (p : Bool) : Option ByteArray := if p = true ∧ (n.kind = 7 ∨ n.kind = 9) then (match n.kids with
  | _ :: sub :: _ => bindN rs sub
  | _ => none) else none
/-- the part of an operator -/
def scrF (rs : List Rul) (M : List Tre → List Int → Nat → Mea Trm) (n : Tre) (path : List Int) (p : Bool) : Mea Prt :=
  if n.kind = 2 then .ok zerP
  else (slotsF M path n.kids.tail 1 (if (varN rs n p).isSome then 2 else 0)).then_ fun ts => .ok ⟨zerT, ts, endS n.kind, (varN rs n p).getD ⟨#[]⟩⟩
/-- the parts of items; kd: the kinds of the rules of the tokens -/
def partsF (rs : List Rul) (M : List Tre → List Int → Nat → Mea Trm) (path : List Int) (kd : Nat → Int) (k : Nat) : List Tre → List ByteArray → Nat → Mea (List Prt)
  | n :: ns, t :: ts, i => (if t.data.toList = [35] then opndF M n (path ++ [((k + i : Nat) : Int)]) else scrF rs M n (path ++ [((k + i : Nat) : Int)]) (decide (kd i = 2))).then_ fun p => (partsF rs M path kd k ns ts (i + 1)).then_ fun ps => .ok (p :: ps)
  | _, _, _ => .ok []
def readsM (rs : List Rul) (ts : List ByteArray) : List Rd := if (validB rs && toksB ts) = true then allR rs ts 0 ts.length else []
/-- the meaning of the items of a row from an index on -/
def listF (rs : List Rul) (M : List Tre → List Int → Nat → Mea Trm) (items : List Tre) (path : List Int) (k : Nat) : Mea Trm :=
  if items.length ≤ k then .bad 15 (path ++ [(k : Int)])
  else match toksN rs (items.drop k) with
    | .inr i => .bad 15 (path ++ [((k + i : Nat) : Int)])
    | .inl ts => match readsM rs ts with
      | [] => .bad 15 (path ++ [(k : Int)])
      | [x] => (partsF rs M path (fun i => kndR rs ((ruleA (asgR rs x ts.length) ts.length).getD i 0)) k (items.drop k) ts 0).then_ fun ps => .ok (trmR rs ps x ts.length)
      | _ :: _ :: _ => .bad 14 (path ++ [(k : Int)])
def listM (rs : List Rul) : Nat → List Tre → List Int → Nat → Mea Trm
  | 0, _, path, _ => .bad 0 path
  | f + 1, items, path, k => listF rs (listM rs f) items path k
end Go.Proofs.YthpioplpfmlgcaaGreatDoor.El
namespace Go.Proofs.YthpioplpfmlgcaaGreatDoor
open Go.Maps (Keyed)
theorem elem_bool_inv {H : Type} {P : Program} {e : TypeId} (he : P.underlying e = some .bool) {v : Value} {z : DataW H × List MemPlace} (h : plainElem P e v = some z) : ∃ a, v = .bool a ∧ z = (.lit (.bool a), []) := by
  unfold plainElem at h
  rw [he] at h
  cases v <;> simp at h
  exact ⟨_, rfl, h.symm⟩
theorem lookup_bool {H : Type} {P : Program} {w : World} {k b n : Nat} {D : DataW H} {t e : TypeId} (h : w.ownsMap P k (plainElem P e) b n D) (K : Keyed P k) (ht : P.underlying t = some (.map k e)) (he : P.underlying e = some .bool) (hz : (zeroValue e).run P w = .ok (.bool false) w)
    {key : Value} {kl : Lit} (hkey : keyOf P k key = some kl) : ∃ c, (Instr.lookup t (.map (some b)) key false).run P w = .ok (.bool c) w ∧ D.atKey kl (.lit (.bool false)) = .lit (.bool c) := by
  obtain ⟨v, ps, hrun, hv⟩ := h.lookup K ht hz (plainElem_bool he false) hkey
  obtain ⟨c, rfl, hc⟩ := elem_bool_inv he hv
  simp only [Prod.mk.injEq] at hc
  exact ⟨c, hrun, hc.1⟩
theorem wpList_lookup_own_bool {H : Type} {P : Program} (w : World) {ops : Array Oper} {rest : List Oper} {o : Oper} {a : Act} {Q : Exit → Act → World → Prop}
    (hg : o.guard = none) (m x : Operand) (t : TypeId) (hop : o.op = Op.lookup t m x false)
    (k e : TypeId) (K : Keyed P k) (ht : P.underlying t = some (.map k e)) (he : P.underlying e = some .bool) (hz : (zeroValue e).run P w = .ok (.bool false) w) (b n : Nat) (D : DataW H)
    (hm : a.eval m = .map (some b)) (hown : w.ownsMap P k (plainElem P e) b n D) (key : Value) (kl : Lit) (hx : a.eval x = key) (hkey : keyOf P k key = some kl)
    (c : Bool) (hc : D.atKey kl (.lit (.bool false)) = .lit (.bool c)) (hK : wpList P ops Q rest (a.put o.dst (.bool c)) w) :
    wpList P ops Q (o :: rest) a w := by
  refine wpList_plain hg fun K' hK' => ?_
  obtain ⟨c', hrun, hat⟩ := lookup_bool hown K ht he hz hkey
  obtain rfl : c = c' := by
    rw [hc] at hat
    simpa using hat
  unfold Oper.wp
  simp [execOp, hop, hm, hx, hrun, Result.andThen]
  exact hK' _ _ hK
theorem wpList_wanted {P : Program} {ops : Array Oper} {rest : List Oper} {o : Oper} {a : Act} {w : World} {Q : Exit → Act → World → Prop} (hg : Region.wanted o (yielded ops a.tmps) = true)
    (h : ∀ K : Act → World → Prop, (∀ a w, wpList P ops Q rest a w → K a w) → o.wp P a w K Q) : wpList P ops Q (o :: rest) a w :=
  wpList_step fun K hK => by rw [if_pos hg]; exact h K hK
theorem wpList_insert_own {H : Type} {P : Program} (w : World) {ops : Array Oper} {rest : List Oper} {o : Oper} {a : Act} {Q : Exit → Act → World → Prop}
    (hg : o.guard = none) (m x v : Operand) (t : TypeId) (hop : o.op = Op.insert t m x v)
    (k e : TypeId) (K : Keyed P k) (ht : P.underlying t = some (.map k e)) (R : Value → Option (DataW H × List MemPlace)) (b n : Nat) (D : DataW H)
    (hm : a.eval m = .map (some b)) (hown : w.ownsMap P k R b n D) (hn : n < maxLen) (key val : Value) (kl : Lit) (hx : a.eval x = key) (hv : a.eval v = val) (hkey : keyOf P k key = some kl)
    (d : DataW H) (ps : List MemPlace) (hval : R val = some (d, ps))
    (hK : ∀ w', w'.ownsMap P k R b (n + 1) (D.put kl d) → w.grownBy w' (some b) → wpList P ops Q rest (a.put o.dst undef) w') :
    wpList P ops Q (o :: rest) a w := by
  refine wpList_plain hg fun K' hK' => ?_
  obtain ⟨w', hrun, r1, r2⟩ := hown.update K ht hn hkey hval
  unfold Oper.wp
  simp [execOp, hop, hm, hx, hv, hrun, Result.andThen]
  exact hK' _ _ (hK w' r1 r2)
/-- the strings that are set -/
def SeenIs (D : DataW Unit) (ss : List (List UInt8)) : Prop := ∀ x : List UInt8, D.atKey (.string x) (.lit (.bool false)) = .lit (.bool (ss.contains x))
theorem seen_nil : SeenIs (.map []) [] := fun x => by simp [DataW.atKey]
theorem seen_put {D : DataW Unit} {ss : List (List UInt8)} (h : SeenIs D ss) (hD : Maps.IsMap D) (s : List UInt8) : SeenIs (D.put (.string s) (.lit (.bool true))) (ss ++ [s]) := fun x => by
  by_cases e : x = s
  · subst e
    rw [Maps.atKey_put_same hD (by trivial)]
    simp
  · rw [Maps.atKey_put_other (by simpa using e), h x]
    congr 2
    simp [e]
end Go.Proofs.YthpioplpfmlgcaaGreatDoor
namespace Go.Proofs.YthpioplpfmlgcaaGreatDoor
open Go.RowKit
theorem info_str : (Tryz.prog.info? 9).map (fun i => (i.zero, i.size, i.bytes)) = some (some (.string ⟨#[]⟩), 1, 16) := by kernel_rfl
end Go.Proofs.YthpioplpfmlgcaaGreatDoor
namespace Go.Proofs.YthpioplpfmlgcaaGreatDoor.Sy
open Go.RowKit
theorem own_below {w w' : World} {base : Nat} {e : TypeId} {size : Nat} {v : Value} {n : Nat} {xs : List Value} (h : w.ownsRow base e size v n xs) (hb : Below w.heap.size w w') : w'.ownsRow base e size v n xs :=
  h.kept (row := none) ⟨hb.os, hb.tape, hb.output, hb.size, fun i hi _ => hb.block i hi⟩ (by cases v.ownBlock <;> simp)
theorem info_parts {P : Program} {t : TypeId} {z : Value} {a b : Nat} (h : (P.info? t).map (fun i => (i.zero, i.size, i.bytes)) = some (some z, a, b)) : ∃ i, P.info? t = some i ∧ i.zero = some z ∧ i.size = a ∧ i.bytes = b := by
  cases hi : P.info? t with
  | none => rw [hi] at h; cases h
  | some i =>
    rw [hi] at h
    simp only [Option.map_some, Option.some.injEq, Prod.mk.injEq] at h
    exact ⟨i, rfl, h.1, h.2.1, h.2.2⟩
theorem cells_newS (w : World) (cs : List Value) (t : TypeId) : ∀ j u, cs[j]? = some u → (w.alloc (.cells cs.toArray t)).cell? ((⟨w.heap.size, 0, none⟩ : Addr).add j) = some u := by
  intro j u hj
  rw [show (⟨w.heap.size, 0, none⟩ : Addr).add j = ⟨w.heap.size, j, none⟩ by unfold Addr.add; simp; omega, Blk.cell (Blk.new w t _)]
  simpa using hj
def conB (ps : List (List UInt8)) (x : List UInt8) : Bool := ps.contains x
def symStep (acc : List (List UInt8)) (r : Rul) : List (List UInt8) := if r.sym.data.toList = [] ∨ acc.contains r.sym.data.toList = true then acc else acc ++ [r.sym.data.toList]
def symOf (rs : List Rul) : List (List UInt8) := rs.foldl symStep []
theorem symOf_snoc {rs : List Rul} {k : Nat} {r : Rul} (h : rs[k]? = some r) : symOf (rs.take (k + 1)) = symStep (symOf (rs.take k)) r := by
  unfold symOf
  rw [List.take_add_one, h]
  simp
theorem symOf_len : ∀ (rs : List Rul) (k : Nat), (symOf (rs.take k)).length ≤ k
  | rs, 0 => by simp [symOf]
  | rs, k + 1 => by
    have ih := symOf_len rs k
    cases h : rs[k]? with
    | none => rw [List.take_add_one, h]; simp; omega
    | some r =>
      rw [symOf_snoc h]
      unfold symStep
      split <;> simp <;> omega
/-- strings that a call has made -/
def OwnStrs (w : World) (B : Nat) (v : Value) (ps : List (List UInt8)) : Prop := w.ownsRow B 9 1 v ps.length (ps.map fun p => Value.string (bys p))
theorem OwnStrs.keep {w w' : World} {B : Nat} {v : Value} {ps : List (List UInt8)} (h : OwnStrs w B v ps) (hb : Below w.heap.size w w') : OwnStrs w' B v ps := own_below h hb
/-- strings in a row that may be nil -/
def StrsO (w : World) (A : Option Addr) (ps : List (List UInt8)) : Prop := ∀ (j : Nat) (p : List UInt8), ps[j]? = some p → ∃ g : Nat, A = some ⟨g, 0, none⟩ ∧ g < w.heap.size ∧ w.cell? ⟨g, j, none⟩ = some (.string (bys p))
theorem OwnStrs.form {w : World} {B : Nat} {v : Value} {ps : List (List UInt8)} (h : OwnStrs w B v ps) : ∃ A cap, v = .slice A ps.length cap ∧ ps.length ≤ cap ∧ cap ≤ 9223372036854775807 ∧ StrsO w A ps := by
  obtain ⟨h1, h2⟩ := h
  rcases h2 with ⟨rfl, h0⟩ | ⟨g, cap, cur, rfl, hg, hb, hn, hc, hs, ht⟩
  · obtain rfl : ps = [] := List.length_eq_zero_iff.1 h0
    exact ⟨none, 0, rfl, by simp, by omega, fun j p hj => by simp at hj⟩
  · have hb' : Blk w g 9 cur := hb
    refine ⟨_, cap, rfl, hn, by unfold maxLen at hc; omega, fun j p hj => ⟨g, rfl, hb'.lt, ?_⟩⟩
    rw [hb'.cell]
    have h3 : (ps.map fun p => Value.string (bys p))[j]? = some (.string (bys p)) := by simp [hj]
    rw [← ht, List.getElem?_take] at h3
    split at h3
    · simpa using h3
    · cases h3
theorem StrsO.keep {w w' : World} {A : Option Addr} {ps : List (List UInt8)} (h : StrsO w A ps) (hb : Below w.heap.size w w') : StrsO w' A ps := fun j p hj => by
  obtain ⟨g, h1, h2, h3⟩ := h j p hj
  exact ⟨g, h1, Nat.lt_of_lt_of_le h2 hb.size, (hb.cell (p := ⟨g, j, none⟩) h2).trans h3⟩
theorem bys_beq (p : List UInt8) (s : ByteArray) : ((bys p).toList == s.toList) = (p == s.data.toList) := by rw [ByteArray.toList_eq, ByteArray.toList_eq, bys_data]
set_option maxHeartbeats 400000 in
theorem has_any (A : Option Addr) (cap : Nat) (ps : List (List UInt8)) (s : ByteArray) (w : World) (hS : StrsO w A ps) (hn : ps.length ≤ 1000000) : Calls Tryz.prog 71 #[.slice A ps.length cap, .string s] w fun e w' => e = .returned (.bool (conB ps s.data.toList)) ∧ w = w' := by
  have HS := Lib.hid hS
  clear hS
  go_enter Tryz.func71, Tryz.ntmps71
  go_wp2_with fail
  go_loop [5] (fun i => ∃ k : Nat, k ≤ ps.length ∧ i = .int .i64 k ∧ Hid (∀ (j : Nat) p, ps[j]? = some p → j < k → (p == s.data.toList) = false)) (fun i => ps.length - (intOf i).toNat)
  case atStart => exact ⟨0, by omega, rfl, fun j _ _ h => by omega⟩
  case round =>
    obtain ⟨k, hk, rfl, HJ⟩ := hrel
    by_cases hlt : k < ps.length
    · obtain ⟨p, hp⟩ : ∃ p, ps[k]? = some p := ⟨_, List.getElem?_eq_getElem hlt⟩
      obtain ⟨g, rfl, hg, hc⟩ := HS.out k p hp
      have HP := Lib.hid hp
      cases hq : ((bys p).toList == s.toList)
      · have HQ := Lib.hid hq
        clear hp
        go_wp2_with fail
        go_round
        case rel => exact ⟨k + 1, by omega, by go_num, fun j y hj h => by
          rcases Nat.lt_or_ge j k with h' | h'
          · exact HJ.out j y hj h'
          · obtain rfl : j = k := by omega
            rw [HP.out] at hj
            obtain rfl := Option.some.inj hj
            rw [← bys_beq]
            exact HQ.out⟩
        case measure => simp [intOf]; omega
      · have HR := Lib.hid (show conB ps s.data.toList = true by
          unfold conB
          rw [bys_beq, beq_iff_eq] at hq
          rw [List.contains_iff_mem, ← hq]
          exact List.mem_of_getElem? hp)
        clear hp
        go_wp2_with fail
        go_ret
        exact ⟨ret_bool HR.out.symm, rfl⟩
    · have HR := Lib.hid (show conB ps s.data.toList = false by
        unfold conB
        rw [Bool.eq_false_iff]
        intro hc
        rw [List.contains_iff_mem] at hc
        obtain ⟨j, hj⟩ := List.mem_iff_getElem?.1 hc
        have := HJ.out j _ hj (by have := (List.getElem?_eq_some_iff.1 hj).1; omega)
        simp at this)
      go_wp2_with fail
      go_ret
      exact ⟨ret_bool HR.out.symm, rfl⟩
theorem symStep_skip {acc : List (List UInt8)} {r : Rul} (h : r.sym.data.toList = [] ∨ acc.contains r.sym.data.toList = true) : symStep acc r = acc := if_pos h
theorem symStep_add {acc : List (List UInt8)} {r : Rul} (h1 : r.sym.data.toList ≠ []) (h2 : acc.contains r.sym.data.toList = false) : symStep acc r = acc ++ [r.sym.data.toList] := if_neg (fun h => by
  rcases h with h | h
  · exact h1 h
  · rw [h2] at h; cases h)
theorem strs_snoc {w : World} {B n : Nat} {v : Value} {ps : List (List UInt8)} {s : ByteArray} (hn : ps.length = n) (h : w.ownsRow B 9 1 v (n + 1) ((ps.map fun p => Value.string (bys p)) ++ [.string s])) : OwnStrs w B v (ps ++ [s.data.toList]) := by
  unfold OwnStrs
  rw [List.length_append, hn, List.map_append, List.map_cons, List.map_nil, data_bys]
  exact h
def SymP (rs : List Rul) (w : World) (e : Ending) (w' : World) : Prop := ∃ v, e = .returned v ∧ OwnStrs w' w.heap.size v (symOf rs) ∧ Below w.heap.size w w'
set_option maxRecDepth 100000 in
set_option maxHeartbeats 800000 in
theorem rsymbols_any (A : Option Addr) (cap : Nat) (rs : List Rul) (w : World) (hR : RulsAt w A rs) (hn : rs.length ≤ 1000000) : Calls Tryz.prog 123 #[.slice A rs.length cap] w (SymP rs w) := by
  obtain ⟨i0, hi, hz0, hz1, hz2⟩ := info_parts info_str
  have HR := Lib.hid hR
  clear hR
  go_enter Tryz.func123, Tryz.ntmps123
  go_wp2_with fail
  go_loopw [3, 4] (fun v i wr => ∃ k : Nat, k ≤ rs.length ∧ i = .int .i64 k ∧ Hid (OwnStrs wr w.heap.size v (symOf (rs.take k))) ∧ Hid (Below w.heap.size w wr)) (fun _ i _ => rs.length - (intOf i).toNat)
  case atStart => exact ⟨0, by omega, rfl, World.ownsRow_nil _ _ _ _, Below.refl _ _⟩
  case round =>
    obtain ⟨k, hk, rfl, HO, HB⟩ := hrel
    by_cases hlt : k < rs.length
    · obtain ⟨x, hx⟩ : ∃ x, rs[k]? = some x := ⟨_, List.getElem?_eq_getElem hlt⟩
      obtain ⟨hf, ad, rfl, hadl, c0, c1, c2, c3, c4, c5⟩ := (HR.out.keep HB.out).at_ hx
      have HS := Lib.hid (symOf_snoc hx)
      have hfit : x.sym.size ≤ 9223372036854775807 := hf.1
      have hlen := symOf_len rs k
      clear hx hf c0 c2 c3 c4 c5
      obtain ⟨A2, cap2, rfl, hcl2, hcap2, hst⟩ := HO.out.form
      have HST := Lib.hid hst
      clear hst
      generalize symOf (rs.take k) = acc at *
      by_cases h0 : x.sym.data.toList = []
      · have hq : x.sym.toList.isEmpty = true := by rw [List.isEmpty_iff, ByteArray.toList_eq]; exact h0
        have HSK := Lib.hid (symStep_skip (acc := acc) (.inl h0))
        clear h0
        go_wp2_with fail
        go_roundw
        case rel => exact ⟨k + 1, by omega, by go_num, by rw [HS.out, HSK.out]; exact HO, HB⟩
        case measure => simp [intOf]; omega
      · have hq : x.sym.toList.isEmpty = false := by rw [Bool.eq_false_iff, ne_eq, List.isEmpty_iff, ByteArray.toList_eq]; exact h0
        have hq' : (!x.sym.toList.isEmpty) = true := by rw [hq]; rfl
        have H0 := Lib.hid h0
        clear h0
        go_wp2_with fail
        refine (has_any A2 cap2 acc x.sym wr HST.out (by omega)).mono ?_
        rintro e w2 ⟨rfl, rfl⟩
        cases hc : conB acc x.sym.data.toList
        · have HAD := Lib.hid (symStep_add H0.out hc)
          clear hc
          have hown := (show wr.ownsRow w.heap.size 9 1 (.slice A2 acc.length cap2) acc.length (acc.map fun p => Value.string (bys p)) from HO.out).alloc (.cells #[.string x.sym] 9)
          have HBL := Lib.hid (World.ownsRow.lt (show wr.ownsRow w.heap.size 9 1 (.slice A2 acc.length cap2) acc.length (acc.map fun p => Value.string (bys p)) from HO.out))
          have HSZ := Lib.hid HB.out.size
          go_wp2_with (at_builtin; refine wpList_append_own _ rfl (.tmp 27) (.tmp 33) 39 rfl w.heap.size 9 i0 (.string ⟨#[]⟩) 1 16 Tryz.underlying39 hi hz0 hz1 hz2 rfl (by decide) _ _ _ rfl hown ⟨wr.heap.size, 0, none⟩ 1 1 [.string x.sym] rfl rfl (cells_newS _ _ _) ?c2a ?c3a ?c4a ?c5a ?_)
          case c2a => intro u hu; simp at hu; subst hu; rfl
          case c3a => unfold maxLen; omega
          case c4a => omega
          case c5a => have := HSZ.out; simp; omega
          intro v' w3 hown' hgrow _
          have NB := Lib.hid ((HB.out.alloc HB.out.size (.cells #[.string x.sym] 9)).grown hgrow (by have := HSZ.out; simp; omega) (fun k hk => (HBL.out k hk).1))
          have NO := Lib.hid (strs_snoc rfl hown')
          clear hown hown' hgrow HO HB
          go_wp2_with fail
          go_roundw
          case rel => exact ⟨k + 1, by omega, by go_num, by rw [HS.out, HAD.out]; exact NO, NB⟩
          case measure => simp [intOf]; omega
        · have HSK := Lib.hid (symStep_skip (acc := acc) (r := x) (.inr hc))
          clear hc
          go_wp2_with fail
          go_roundw
          case rel => exact ⟨k + 1, by omega, by go_num, by rw [HS.out, HSK.out]; exact HO, HB⟩
          case measure => simp [intOf]; omega
    · obtain rfl : k = rs.length := by omega
      have HT := Lib.hid (show rs.take rs.length = rs from List.take_length)
      go_wp2_with fail
      go_ret
      exact ⟨_, rfl, by have := HO.out; rwa [HT.out] at this, HB.out⟩
theorem law9 : Maps.Keyed Tryz.prog 9 := Maps.string_keyed Tryz.underlying9
theorem zero4 (w : World) : (zeroValue 4).run Tryz.prog w = .ok (.bool false) w := by simp [Tryz.zeroValue4]
abbrev OwnMap (w : World) (b n : Nat) (D : DataW Unit) : Prop := w.ownsMap Tryz.prog 9 (plainElem Tryz.prog 4) b n D
theorem map_not_row {w : World} {b n m B : Nat} {D : DataW Unit} {v : Value} {ps : List (List UInt8)} (h : OwnMap w b n D) (ho : w.ownsRow B 9 1 v m (ps.map fun p => Value.string (bys p))) : v.ownBlock ≠ some b := by
  intro e
  obtain ⟨es, clock, hb, _⟩ := h
  rcases ho.2 with ⟨rfl, _⟩ | ⟨g, cap, cur, rfl, _, hg, _⟩
  · cases e
  · obtain rfl : g = b := by simpa [Value.ownBlock] using e
    rw [hg] at hb
    cases hb
set_option maxRecDepth 100000 in
set_option maxHeartbeats 800000 in
theorem symbols_any (A : Option Addr) (cap : Nat) (rs : List Rul) (w : World) (hR : RulsAt w A rs) (hn : rs.length ≤ 1000000) : Calls Tryz.prog 62 #[.slice A rs.length cap] w (SymP rs w) := by
  obtain ⟨i0, hi, hz0, hz1, hz2⟩ := info_parts info_str
  have HR := Lib.hid hR
  clear hR
  have hmade := World.ownsMap_made (H := Unit) w Tryz.prog 9 (plainElem Tryz.prog 4)
  have hmm := @run_makeMap Tryz.prog
  go_enter Tryz.func62, Tryz.ntmps62
  go_wp2_with (refine wpList_insert_own (H := Unit) _ rfl _ _ _ 103 rfl 9 4 law9 Tryz.underlying103 _ w.heap.size 0 (.map []) rfl hmade (by unfold maxLen; omega) _ _ (.string []) rfl rfl (Go.WideMaps.keyOf_string_mk Tryz.underlying9 (by unfold maxLen; decide)) (.lit (.bool true)) [] (plainElem_bool Tryz.underlying4 true) ?_)
  intro w1 hm1 hgrow1
  have hb1 := Lib.hid ((bel_alloc w (.map #[] 0)).grown hgrow1 (by simp) (fun k hk => by cases hk; exact Nat.le_refl _))
  have hm1' := Lib.hid (show OwnMap w1 w.heap.size 1 (DataW.put (.map []) (.string []) (.lit (.bool true))) from hm1)
  have hs1 : Hid (SeenIs (DataW.put (.map []) (.string []) (.lit (.bool true))) ([] :: [])) := seen_put seen_nil ⟨_, rfl⟩ []
  clear hm1 hgrow1 hmade hmm
  generalize DataW.put (.map []) (.string []) (.lit (.bool true)) = D1 at *
  go_wp2_with fail
  go_loopw [3, 11] (fun v i wr => ∃ (k : Nat) (D : DataW Unit), k ≤ rs.length ∧ i = .int .i64 k ∧ Hid (OwnMap wr w.heap.size (k + 1) D) ∧ Hid (SeenIs D ([] :: symOf (rs.take k))) ∧ Hid (OwnStrs wr w.heap.size v (symOf (rs.take k))) ∧ Hid (Below w.heap.size w wr)) (fun _ i _ => rs.length - (intOf i).toNat)
  case atStart => exact ⟨0, D1, by omega, rfl, hm1', hs1, World.ownsRow_nil _ _ _ _, hb1⟩
  case round =>
    clear hm1' hs1 hb1
    obtain ⟨k, D, hk, rfl, HM, HSE, HO, HB⟩ := hrel
    by_cases hlt : k < rs.length
    · obtain ⟨x, hx⟩ : ∃ x, rs[k]? = some x := ⟨_, List.getElem?_eq_getElem hlt⟩
      obtain ⟨hf, ad, rfl, hadl, c0, c1, c2, c3, c4, c5⟩ := (HR.out.keep HB.out).at_ hx
      have HS := Lib.hid (symOf_snoc hx)
      have hfit : x.sym.size ≤ 9223372036854775807 := hf.1
      have hlen := symOf_len rs k
      clear hx hf
      generalize symOf (rs.take k) = acc at *
      have hmap := (show OwnMap wr w.heap.size (k + 1) D from HM.out).alloc (.cells x.c 50)
      have HKEY := Lib.hid (Go.WideMaps.keyOf_string_mk (P := Tryz.prog) (k := 9) Tryz.underlying9 (s := x.sym) (by unfold maxLen; omega))
      have hat : D.atKey (.string x.sym.data.toList) (.lit (.bool false)) = .lit (.bool (conB ([] :: acc) x.sym.data.toList)) := HSE.out x.sym.data.toList
      have HAT := Lib.hid hat
      clear hat
      cases hc : conB ([] :: acc) x.sym.data.toList
      · rw [hc] at HAT
        have h1 : x.sym.data.toList ≠ [] ∧ acc.contains x.sym.data.toList = false := by
          unfold conB at hc
          rw [List.contains_cons, Bool.or_eq_false_iff, beq_eq_false_iff_ne] at hc
          exact hc
        have HAD := Lib.hid (symStep_add h1.1 h1.2)
        have HSN := Lib.hid (show SeenIs (D.put (.string x.sym.data.toList) (.lit (.bool true))) ([] :: symStep acc x) by rw [HAD.out]; exact seen_put HSE.out (World.ownsMap.isMap HM.out) _)
        clear hc h1
        go_wp2_with (first | (at_lookup; refine wpList_lookup_own_bool (H := Unit) _ rfl _ _ 103 rfl 9 4 law9 Tryz.underlying103 Tryz.underlying4 (zero4 _) w.heap.size (k + 1) D rfl hmap _ _ rfl HKEY.out false HAT.out ?_) | (at_mapUpdate; refine wpList_mapUpdate_own _ rfl _ _ _ 103 rfl 9 4 law9 Tryz.underlying103 _ w.heap.size (k + 1) D rfl hmap (by unfold maxLen; omega) _ _ _ rfl rfl HKEY.out (.lit (.bool true)) [] (plainElem_bool Tryz.underlying4 true) ?_))
        intro w2 hm2 hgrow2
        have hO' := (show wr.ownsRow w.heap.size 9 1 u3 acc.length (acc.map fun p => Value.string (bys p)) from HO.out).alloc (.cells x.c 50)
        have hne := map_not_row hmap hO'
        have hO2 := hO'.kept hgrow2 (.inr hne)
        have KX := Lib.hid ((Blk.new wr 50 x.c).grown hgrow2 (fun e => by
          have h8 := hmap.lt
          have h9 : OwnMap wr w.heap.size (k + 1) D := HM.out
          have h10 := h9.lt
          have : wr.heap.size = w.heap.size := by simpa using e
          omega))
        have HB2 := Lib.hid ((HB.out.alloc HB.out.size (.cells x.c 50)).grown hgrow2 (by have := HB.out.size; simp; omega) (fun k hk => by cases hk; exact Nat.le_refl _))
        have HM2 := Lib.hid (show OwnMap w2 w.heap.size (k + 1 + 1) (D.put (.string x.sym.data.toList) (.lit (.bool true))) from hm2)
        clear hmap hO' hne hgrow2 hm2 HM HO HB c0 c1 c2 c3 c4 c5
        have hown := hO2.alloc (.cells #[.string x.sym] 9)
        have HBL := Lib.hid hO2.lt
        have HNR := Lib.hid (map_not_row HM2.out hO2)
        have HSZ := Lib.hid HB2.out.size
        have cK := fun i => KX.out.cell i
        have lK := KX.out.lt
        go_wp2_with (at_builtin; refine wpList_append_own _ rfl (.tmp 23) (.tmp 26) 39 rfl w.heap.size 9 i0 (.string ⟨#[]⟩) 1 16 Tryz.underlying39 hi hz0 hz1 hz2 rfl (by decide) _ _ _ rfl hown ⟨w2.heap.size, 0, none⟩ 1 1 [.string x.sym] rfl rfl (cells_newS _ _ _) ?c2a ?c3a ?c4a ?c5a ?_)
        case c2a => intro u hu; simp at hu; subst hu; rfl
        case c3a => unfold maxLen; omega
        case c4a => omega
        case c5a => have := HSZ.out; simp; omega
        intro v' w3 hown' hgrow _
        have NB := Lib.hid ((HB2.out.alloc HB2.out.size (.cells #[.string x.sym] 9)).grown hgrow (by have := HSZ.out; simp; omega) (fun k hk => (HBL.out k hk).1))
        have NM := Lib.hid (show OwnMap w3 w.heap.size (k + 1 + 1) (D.put (.string x.sym.data.toList) (.lit (.bool true))) from (HM2.out.alloc _).kept hgrow (fun e => HNR.out e.symm))
        have NO := Lib.hid (strs_snoc rfl hown')
        clear hown hown' hgrow hO2 cK lK
        go_wp2_with fail
        go_roundw
        case rel => exact ⟨k + 1, _, by omega, by go_num, NM, Lib.hid (by rw [HS.out]; exact HSN.out), Lib.hid (by rw [HS.out, HAD.out]; exact NO.out), NB⟩
        case measure => simp [intOf]; omega
      · rw [hc] at HAT
        have h1 : x.sym.data.toList = [] ∨ acc.contains x.sym.data.toList = true := by
          unfold conB at hc
          rw [List.contains_cons, Bool.or_eq_true, beq_iff_eq] at hc
          exact hc
        have HSK := Lib.hid (symStep_skip (acc := acc) h1)
        clear hc h1
        go_wp2_with (at_lookup; refine wpList_lookup_own_bool (H := Unit) _ rfl _ _ 103 rfl 9 4 law9 Tryz.underlying103 Tryz.underlying4 (zero4 _) w.heap.size (k + 1) D rfl hmap _ _ rfl HKEY.out true HAT.out ?_)
        go_roundw
        case rel => exact ⟨k + 1, D, by omega, by go_num, Lib.hid (World.ownsMap.mono hmap (by omega)), by rw [HS.out, HSK.out]; exact HSE, Lib.hid (by rw [HS.out, HSK.out]; exact HO.out.keep (bel_alloc _ _)), Lib.hid (HB.out.alloc HB.out.size _)⟩
        case measure => simp [intOf]; omega
    · obtain rfl : k = rs.length := by omega
      have HT := Lib.hid (show rs.take rs.length = rs from List.take_length)
      go_wp2_with fail
      go_ret
      exact ⟨_, rfl, by have := HO.out; rwa [HT.out] at this, HB.out⟩
end Go.Proofs.YthpioplpfmlgcaaGreatDoor.Sy
