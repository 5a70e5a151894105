/- An operand in brackets: the meaning has one group more: plain · Errors of meanings; the slots of a tree with one operand: plain · The walk of ElaborateExtends: one rule more · The walk of ElaborateTokens -/
import Derived.Test.YthpioplpfmlgcaaGreatDoorHc9efa9a5
import Derived.Test.YthpioplpfmlgcaaGreatDoorH5f6aca22
import Derived.BigQuiet
import Derived.Deep.DeepCutAuto
import Derived.Deep.CutBlock
namespace Go.Proofs.YthpioplpfmlgcaaGreatDoor.El
open Go.Proofs.YthpioplpfmlgcaaGreatDoor.At
open Go.Proofs.YthpioplpfmlgcaaGreatDoor.Ch
open Go.Proofs.YthpioplpfmlgcaaGreatDoor.Sp
open Go.Proofs.YthpioplpfmlgcaaGreatDoor.Sy
open Go.RowKit
/-- more fuel than nodes changes nothing -/
theorem list_fuel (rs : List Rul) : ∀ (f f' : Nat) (items : List Tre) (path : List Int) (k : Nat), countL items < f → countL items < f' → listM rs f items path k = listM rs f' items path k
  | 0, _, _, _, _, h, _ => absurd h (by omega)
  | _ + 1, 0, _, _, _, _, h => absurd h (by omega)
  | f + 1, f' + 1, items, path, k, h, h' => by
    rw [listM, listM]
    unfold listF
    split
    · rfl
    split
    · rfl
    · next ts hts =>
      split
      · rfl
      · next x hx =>
        rw [partsF_congr (rs' := rs) (M' := listM rs f') (kd' := fun i => kndR rs ((ruleA (asgR rs x ts.length) ts.length).getD i 0)) (items.drop k) ts 0 (fun n hn d hd p j => ?_) (fun _ _ _ => rfl) (fun _ _ _ _ => rfl)]
        have hc : ∀ (l : List Tre) (t : Tre), t ∈ l → countT t ≤ countL l := by
          intro l
          induction l with
          | nil => intro t ht; cases ht
          | cons a l ih =>
            intro t ht
            rw [countL]
            rcases List.mem_cons.1 ht with rfl | ht
            · omega
            · have := ih t ht; omega
        have h1 := hc _ n hn
        have h2 := hc _ d hd
        have h3 := count_drop items k
        have h4 := count_kids n
        have h5 := count_kids d
        exact list_fuel rs f f' d.kids p j (by omega) (by omega)
      · rfl
theorem one_read {rs : List Rul} (hv : validB rs = true) : readsM rs [hashS] = [.mk (-1) 0 []] := by
  unfold readsM
  rw [hv, show toksB [hashS] = true by decide +kernel, if_pos (by rfl), show ([hashS] : List ByteArray).length = 1 from rfl, all_eq (by omega)]
  unfold bodyR
  rw [show baseR [hashS] 0 1 = [.mk (-1) 0 []] by unfold baseR; rw [if_pos ⟨rfl, by decide +kernel⟩]; rfl]
  have hn : ∀ (n : Nat), ofRule rs [hashS] (allR rs [hashS]) 0 1 n = [] := by
    intro n
    unfold ofRule
    cases rs[n]? with
    | none => rfl
    | some u =>
      dsimp only
      rw [all_none (Nat.le_refl 1), show 1 - 1 = 0 from rfl, all_none (Nat.le_refl 0)]
      split
      · rfl
      split
      · split <;> rfl
      split
      · split <;> rfl
      split <;> rfl
  rw [flatMap_congr' (g := fun _ => []) fun n _ => hn n, flatMap_nil', List.append_nil]
/-- the meaning of a list of one operand -/
theorem one_list {rs : List Rul} (hv : validB rs = true) {f : Nat} {n : Tre} {path : List Int} (ht : toksN rs [n] = .inl [hashS]) : listM rs (f + 1) [n] path 0 = (opndF (listM rs f) n (path ++ [0])).then_ fun p => .ok p.opnd := by
  rw [listM]
  unfold listF
  rw [if_neg (by simp), List.drop_zero, ht]
  dsimp only
  rw [one_read hv]
  dsimp only
  rw [partsF, partsF, if_pos (by decide)]
  · rw [show ((0 + 0 : Nat) : Int) = 0 from rfl]
    cases opndF (listM rs f) n (path ++ [0]) with
    | bad e p => rfl
    | ok p =>
      simp only [Mea.then_]
      rw [trm_eqn, if_pos (by decide)]
      rfl
  · intro a b c d h1; cases h1
def brkS : ByteArray := ⟨#[40, 41]⟩
/-- a node in brackets -/
def brkT (n : Tre) : Tre := .mk 11 brkS 0 [.mk 1 ⟨#[]⟩ 0 [n]]
def grpT (t : Trm) : Trm := .mk 4 grpS ⟨#[]⟩ (fenS ++ brkS) [t]
theorem brk_opnd {rs : List Rul} (hv : validB rs = true) {f : Nat} {n : Tre} {path : List Int} {p : Prt} (ht : toksN rs [n] = .inl [hashS]) (h : ∀ q, ∃ p', opndF (listM rs f) n q = .ok p' ∧ p'.opnd = p.opnd) : opndF (listM rs (f + 1)) (brkT n) path = .ok ⟨grpT p.opnd, [], ⟨#[]⟩, ⟨#[]⟩⟩ := by
  unfold opndF
  rw [show (brkT n).kind = 11 from rfl, if_neg (by decide), if_neg (by decide), if_neg (by decide)]
  show ((if (11 : Int) = 6 ∧ ([n] : List Tre).isEmpty = true then slotsF (listM rs (f + 1)) path [] 1 0 else slotsF (listM rs (f + 1)) path [.mk 1 ⟨#[]⟩ 0 [n]] 0 0).then_ _) = _
  rw [if_neg (fun h => absurd h.1 (by decide)), slotsF, slotsF]
  show ((listM rs (f + 1) [n] (path ++ [((0 : Nat) : Int)]) 0).then_ _).then_ _ = _
  rw [one_list hv ht]
  obtain ⟨p', h1, h2⟩ := h ((path ++ [((0 : Nat) : Int)]) ++ [0])
  rw [h1]
  simp only [Mea.then_]
  rw [h2, show shapeN (brkT n) = (grpS, fenS ++ brkS) by
    unfold shapeN
    rw [show (brkT n).kind = 11 from rfl, if_neg (by decide), if_neg (by decide), if_neg (by decide), if_neg (by decide), if_neg (by decide), if_neg (by decide), if_neg (by decide)]
    rw [show (brkT n).text = brkS from rfl, if_neg (by decide)]]
  rfl
/-- one subterm is put in a group -/
inductive GrpIn : Trm → Trm → Prop
  | here (t : Trm) : GrpIn t (grpT t)
  | there (k : Int) (a v f : ByteArray) (xs ys : List Trm) (t u : Trm) (hf : f.data.toList ≠ (fenS ++ brkS).data.toList) (h : GrpIn t u) : GrpIn (.mk k a v f (xs ++ [t] ++ ys)) (.mk k a v f (xs ++ [u] ++ ys))
mutual
/-- how many of some groups are left -/
def grpF : Trm → Trm → Int → Int
  | .mk k a v f ts, u, most =>
    if 0 < most ∧ u.kind = 4 ∧ u.nam.data.toList = grpS.data.toList ∧ u.form.data.toList = (fenS ++ brkS).data.toList ∧ (match u.args with
      | [x] => eqM (.mk k a v f ts) x
      | _ => false) = true then most - 1
    else if k ≠ u.kind ∨ a.data.toList ≠ u.nam.data.toList ∨ v.data.toList ≠ u.vr.data.toList ∨ f.data.toList ≠ u.form.data.toList ∨ ts.length ≠ u.args.length then -1
    else grpL ts u.args most
def grpL : List Trm → List Trm → Int → Int
  | t :: ts, us, most => if most < 0 then most else match us with
    | u :: us => grpL ts us (grpF t u most)
    | [] => most
  | [], _, most => most
end
mutual
theorem eq_cnt : ∀ (t u : Trm), eqM t u = true → cntM t = cntM u
  | .mk k a v f ts, u, h => by
    rw [eqM, Bool.and_eq_true] at h
    obtain ⟨k', a', v', f', us⟩ := u
    rw [cntM, cntM, eq_cntL ts us h.2]
theorem eq_cntL : ∀ (ts us : List Trm), eqL ts us = true → cntL ts = cntL us
  | [], us, h => by
    rw [eqL, List.isEmpty_iff] at h
    rw [h]
  | t :: ts, [], h => by rw [eqL] at h; cases h
  | t :: ts, u :: us, h => by
    rw [eqL, Bool.and_eq_true] at h
    rw [cntL, cntL, eq_cnt t u h.1, eq_cntL ts us h.2]
end
mutual
theorem eq_self : ∀ t : Trm, eqM t t = true
  | .mk k a v f ts => by
    rw [eqM]
    simp only [Trm.kind, Trm.nam, Trm.vr, Trm.form, Trm.args, beq_self_eq_true, decide_true, Bool.true_and]
    exact eq_selfL ts
theorem eq_selfL : ∀ ts : List Trm, eqL ts ts = true
  | [] => by rw [eqL]; rfl
  | t :: ts => by rw [eqL, eq_self t, eq_selfL ts]; rfl
end
theorem grpF_eq (k : Int) (a v f : ByteArray) (ts : List Trm) (u : Trm) (most : Int) : grpF (.mk k a v f ts) u most =
    if 0 < most ∧ u.kind = 4 ∧ u.nam.data.toList = grpS.data.toList ∧ u.form.data.toList = (fenS ++ brkS).data.toList ∧ (match u.args with
      | [x] => eqM (.mk k a v f ts) x
      | _ => false) = true then most - 1
    else if k ≠ u.kind ∨ a.data.toList ≠ u.nam.data.toList ∨ v.data.toList ≠ u.vr.data.toList ∨ f.data.toList ≠ u.form.data.toList ∨ ts.length ≠ u.args.length then -1
    else grpL ts u.args most := by rw [grpF]
mutual
theorem grp_self : ∀ (t : Trm) (most : Int), 0 ≤ most → grpF t t most = most
  | .mk k a v f ts, most, h => by
    rw [grpF_eq, if_neg, if_neg (by simp [Trm.kind, Trm.nam, Trm.vr, Trm.form, Trm.args])]
    · exact grp_selfL ts most h
    · rintro ⟨_, _, _, _, h5⟩
      split at h5
      · next x hx =>
        have hts : ts = [x] := hx
        subst hts
        have := eq_cnt _ _ h5
        rw [cntM, cntL, cntL] at this
        omega
      · cases h5
theorem grp_selfL : ∀ (ts : List Trm) (most : Int), 0 ≤ most → grpL ts ts most = most
  | [], most, _ => by rw [grpL]
  | t :: ts, most, h => by
    rw [grpL, if_neg (by omega)]
    rw [grp_self t most h]
    exact grp_selfL ts most h
end
theorem grpL_app {t u : Trm} {n : Int} (ht : grpF t u 1 = n) (hn : 0 ≤ n) : ∀ (xs ys : List Trm), grpL (xs ++ [t] ++ ys) (xs ++ [u] ++ ys) 1 = n
  | [], ys => by
    rw [List.nil_append, List.singleton_append, List.nil_append, List.singleton_append, grpL, if_neg (by omega)]
    rw [ht]
    exact grp_selfL ys n hn
  | x :: xs, ys => by
    rw [List.cons_append, List.cons_append, List.cons_append, List.cons_append, grpL, if_neg (by omega)]
    rw [grp_self x 1 (by omega)]
    exact grpL_app ht hn xs ys
/-- THE LAW of groups -/
theorem grp_in {t u : Trm} (h : GrpIn t u) : grpF t u 1 = 0 := by
  induction h with
  | here t =>
    obtain ⟨k, a, v, f, ts⟩ := t
    rw [grpF_eq, if_pos]
    · rfl
    · exact ⟨by omega, rfl, rfl, rfl, eq_self _⟩
  | there k a v f xs ys t u hf h ih =>
    rw [grpF_eq, if_neg, if_neg (by simp [Trm.kind, Trm.nam, Trm.vr, Trm.form, Trm.args])]
    · exact grpL_app ih (Int.le_refl _) xs ys
    · rintro ⟨_, _, _, h4, _⟩
      exact hf h4
theorem head_ne {a b : ByteArray} (h : a.data.toList.head? ≠ fenS.data.toList.head?) (ha : a.data.toList ≠ []) : (a ++ b).data.toList ≠ (fenS ++ brkS).data.toList := by
  intro e
  rw [ByteArray.data_append, ByteArray.data_append, Array.toList_append, Array.toList_append] at e
  have := congrArg List.head? e
  rw [List.head?_append, List.head?_append] at this
  cases hq : a.data.toList with
  | nil => exact ha hq
  | cons c r =>
    rw [hq] at this h
    exact h this
theorem formS_head (k : Int) : (formS k).data.toList.head? ≠ fenS.data.toList.head? ∧ (formS k).data.toList ≠ [] := by
  unfold formS
  split
  · decide
  split
  · decide
  split <;> decide
theorem mkOp_grp {nam : ByteArray} {k : Int} {po : Option Prt} {xs ys : List Trm} {t u : Trm} (h : GrpIn t u) : GrpIn (mkOp nam k po (xs ++ [t] ++ ys)) (mkOp nam k po (xs ++ [u] ++ ys)) := by
  unfold mkOp
  cases po with
  | none =>
    dsimp only
    refine .there _ _ _ _ _ _ _ _ ?_ h
    have := head_ne (b := ⟨#[]⟩) (formS_head k).1 (formS_head k).2
    rwa [show formS k ++ (⟨#[]⟩ : ByteArray) = formS k by
      apply ByteArray.ext
      rw [ByteArray.data_append]
      exact Array.append_empty] at this
  | some p =>
    dsimp only
    split
    · rw [show p.scr ++ (xs ++ [t] ++ ys) = (p.scr ++ xs) ++ [t] ++ ys by simp, show p.scr ++ (xs ++ [u] ++ ys) = (p.scr ++ xs) ++ [u] ++ ys by simp]
      exact .there _ _ _ _ _ _ _ _ (head_ne (formS_head k).1 (formS_head k).2) h
    · rw [show p.scr ++ (xs ++ [t] ++ ys) = (p.scr ++ xs) ++ [t] ++ ys by simp, show p.scr ++ (xs ++ [u] ++ ys) = (p.scr ++ xs) ++ [u] ++ ys by simp]
      exact .there _ _ _ _ _ _ _ _ (head_ne (by decide) (by decide)) h
/-- readings that do not reach the part that is changed -/
theorem trm_same {rs : List Rul} {ps ps' : List Prt} {x : Rd} {i j : Nat} (h : OkR rs x i j) (he : ∀ q, i ≤ q → q < j → ps[q]? = ps'[q]?) : trmR rs ps x (j : Int) = trmR rs ps' x (j : Int) := by
  induction h with
  | leaf i => rw [trm_eqn, trm_eqn, if_pos (by decide), if_pos (by decide), Int.toNat_natCast, he i (Nat.le_refl _) (by omega)]
  | inf n u i k j y z hu hk h1 h2 hz a b ha hb =>
    have h3 := op_inf (i := i) (j := j) (y := y) hu hk hz
    rw [trm_eqn, trm_eqn, if_neg (show ¬ ((n : Int) < 0) by omega), if_neg (show ¬ ((n : Int) < 0) by omega), h3.1, h3.2, if_pos (Int.natCast_nonneg _), if_pos (Int.natCast_nonneg _), Int.toNat_natCast, he k (by omega) (by omega)]
    simp only [trmL, ha fun q h4 h5 => he q h4 (by omega), hb fun q h4 h5 => he q (by omega) h5]
  | pre n u i j y hu hk h1 a ha =>
    have h3 := op_pre (i := i) (j := j) (y := y) hu hk
    rw [trm_eqn, trm_eqn, if_neg (show ¬ ((n : Int) < 0) by omega), if_neg (show ¬ ((n : Int) < 0) by omega), h3.1, h3.2, if_pos (Int.natCast_nonneg _), if_pos (Int.natCast_nonneg _), Int.toNat_natCast, he i (by omega) (by omega)]
    simp only [trmL, ha fun q h4 h5 => he q (by omega) h5]
  | pos n u i j y hu hk h1 a ha =>
    have h3 := op_pos (i := i) (j := j) (y := y) hu hk (by omega)
    rw [trm_eqn, trm_eqn, if_neg (show ¬ ((n : Int) < 0) by omega), if_neg (show ¬ ((n : Int) < 0) by omega), h3.1, h3.2, if_pos (Int.natCast_nonneg _), if_pos (Int.natCast_nonneg _), Int.toNat_natCast, he (j - 1) (by omega) (by omega)]
    simp only [trmL, ha fun q h4 h5 => he q h4 (by omega)]
  | jux n u i k j y z hu hk h1 h2 hz a b ha hb =>
    have h3 := op_jux (i := i) (j := j) (y := y) hu hk hz
    rw [trm_eqn, trm_eqn, if_neg (show ¬ ((n : Int) < 0) by omega), if_neg (show ¬ ((n : Int) < 0) by omega), h3.1, h3.2, if_neg (c := 0 ≤ (-1 : Int)) (by omega), if_neg (c := 0 ≤ (-1 : Int)) (by omega)]
    simp only [trmL, ha fun q h4 h5 => he q h4 (by omega), hb fun q h4 h5 => he q (by omega) h5]
theorem trm_grp {rs : List Rul} (hv : validB rs = true) {ts : List ByteArray} {ps ps' : List Prt} {k0 : Nat} {p p' : Prt} (hk0 : ps[k0]? = some p) (hk1 : ps'[k0]? = some p') (hop : p'.opnd = grpT p.opnd) (hne : ∀ q, q ≠ k0 → ps[q]? = ps'[q]?) (htk : tokB ts k0 opndL = true) : ∀ (m i j : Nat) (x : Rd), j - i ≤ m → i ≤ k0 → k0 < j → x ∈ allR rs ts i j → GrpIn (trmR rs ps x (j : Int)) (trmR rs ps' x (j : Int))
  | 0, i, j, x, hm, _, _, h => by have := mem_lt h; omega
  | m + 1, i, j, x, hm, h1, h2, h => by
    have hij := mem_lt h
    have opk : ∀ (q n : Nat) (u : Rul), rs[n]? = some u → tokB ts q u.sym.toList = true → q ≠ k0 := by
      rintro q n u hu htq rfl
      exact sym_hash hv hu (tok_two htq htk)
    rcases (mem_all hij).1 h with ⟨rfl, ht, rfl⟩ | ⟨n, u, hu, hr⟩
    · obtain rfl : i = k0 := by omega
      rw [trm_eqn, trm_eqn, if_pos (by decide), if_pos (by decide), Int.toNat_natCast, hk0, hk1]
      dsimp only
      rw [hop]
      exact .here _
    · rcases hr with ⟨hk, k, y, z, h3, h4, htq, hy, hz, rfl⟩ | ⟨hk, y, htq, hy, rfl⟩ | ⟨hk, y, htq, hy, rfl⟩ | ⟨hk, k, y, z, h3, h4, hy, hz, rfl⟩
      · have ho := op_inf (i := i) (j := j) (y := y) hu hk (mem_least_at hz).1
        have hkk := opk k n u hu htq
        have my := (mem_least.1 hy).1
        have mz := (mem_least.1 hz).1
        rw [trm_eqn, trm_eqn, if_neg (show ¬ ((n : Int) < 0) by omega), if_neg (show ¬ ((n : Int) < 0) by omega), ho.1, ho.2, Int.toNat_natCast, hne k hkk]
        simp only [trmL]
        rcases Nat.lt_or_ge k0 k with h5 | h5
        · rw [trm_same (ok_of_mem _ _ _ z (Nat.le_refl _) mz) (ps' := ps') fun q h6 h7 => hne q (by omega)]
          exact mkOp_grp (xs := []) (ys := [trmR rs ps' z j]) (trm_grp hv hk0 hk1 hop hne htk m i k y (by omega) h1 h5 my)
        · rw [trm_same (ok_of_mem _ _ _ y (Nat.le_refl _) my) (ps' := ps') fun q h6 h7 => hne q (by omega)]
          exact mkOp_grp (xs := [trmR rs ps' y k]) (ys := []) (trm_grp hv hk0 hk1 hop hne htk m (k + 1) j z (by omega) (by omega) h2 mz)
      · have ho := op_pre (i := i) (j := j) (y := y) hu hk
        have hkk := opk i n u hu htq
        rw [trm_eqn, trm_eqn, if_neg (show ¬ ((n : Int) < 0) by omega), if_neg (show ¬ ((n : Int) < 0) by omega), ho.1, ho.2, Int.toNat_natCast, hne i hkk]
        simp only [trmL]
        exact mkOp_grp (xs := []) (ys := []) (trm_grp hv hk0 hk1 hop hne htk m (i + 1) j y (by omega) (by omega) h2 (mem_least.1 hy).1)
      · have ho := op_pos (i := i) (j := j) (y := y) hu hk (by omega)
        have hkk := opk (j - 1) n u hu htq
        rw [trm_eqn, trm_eqn, if_neg (show ¬ ((n : Int) < 0) by omega), if_neg (show ¬ ((n : Int) < 0) by omega), ho.1, ho.2, Int.toNat_natCast, hne (j - 1) hkk]
        simp only [trmL]
        exact mkOp_grp (xs := []) (ys := []) (trm_grp hv hk0 hk1 hop hne htk m i (j - 1) y (by omega) h1 (by omega) (mem_least.1 hy).1)
      · have ho := op_jux (i := i) (j := j) (y := y) hu hk (mem_least_at hz).1
        have my := (mem_least.1 hy).1
        have mz := (mem_least.1 hz).1
        rw [trm_eqn, trm_eqn, if_neg (show ¬ ((n : Int) < 0) by omega), if_neg (show ¬ ((n : Int) < 0) by omega), ho.1, ho.2, if_neg (c := 0 ≤ (-1 : Int)) (by omega), if_neg (c := 0 ≤ (-1 : Int)) (by omega)]
        simp only [trmL]
        rcases Nat.lt_or_ge k0 k with h5 | h5
        · rw [trm_same (ok_of_mem _ _ _ z (Nat.le_refl _) mz) (ps' := ps') fun q h6 h7 => hne q (by omega)]
          exact mkOp_grp (xs := []) (ys := [trmR rs ps' z j]) (trm_grp hv hk0 hk1 hop hne htk m i k y (by omega) h1 h5 my)
        · rw [trm_same (ok_of_mem _ _ _ y (Nat.le_refl _) my) (ps' := ps') fun q h6 h7 => hne q (by omega)]
          exact mkOp_grp (xs := [trmR rs ps' y k]) (ys := []) (trm_grp hv hk0 hk1 hop hne htk m k j z (by omega) h5 h2 mz)
theorem toks_set {rs : List Rul} {x y : Tre} (hxy : tokN rs y = tokN rs x) : ∀ (l : List Tre) (k : Nat), l[k]? = some x → toksN rs (l.set k y) = toksN rs l
  | [], k, h => by simp at h
  | a :: l, 0, h => by
    rw [List.getElem?_cons_zero] at h
    injection h with h
    subst h
    rw [List.set_cons_zero, toksN, toksN, hxy]
  | a :: l, k + 1, h => by
    rw [List.getElem?_cons_succ] at h
    rw [List.set_cons_succ, toksN, toksN, toks_set hxy l k h]
theorem parts_set {rs : List Rul} {M : List Tre → List Int → Nat → Mea Trm} {path : List Int} {kd : Nat → Int} {k0 : Nat} {y : Tre} {p' : Prt} : ∀ (ns : List Tre) (ts : List ByteArray) (i k : Nat) (ps : List Prt) (t : ByteArray), ns.length = ts.length → k < ns.length → ts[k]? = some t → t.data.toList = [35] → partsF rs M path kd k0 ns ts i = .ok ps → opndF M y (path ++ [((k0 + (i + k) : Nat) : Int)]) = .ok p' → partsF rs M path kd k0 (ns.set k y) ts i = .ok (ps.set k p')
  | [], _, _, _, _, _, _, h, _, _, _, _ => by simp at h
  | _ :: _, [], _, _, _, _, h, _, _, _, _, _ => by simp at h
  | n :: ns, t0 :: ts, i, k, ps, t, hl, hk, htk, ht, h, hy => by
    rw [partsF] at h
    cases h1 : (if t0.data.toList = [35] then opndF M n (path ++ [((k0 + i : Nat) : Int)]) else scrF rs M n (path ++ [((k0 + i : Nat) : Int)]) (decide (kd i = 2))) with
    | bad e p => rw [h1] at h; cases h
    | ok x =>
      rw [h1] at h
      simp only [Mea.then_] at h
      cases h2 : partsF rs M path kd k0 ns ts (i + 1) with
      | bad e p => rw [h2] at h; cases h
      | ok us =>
        rw [h2] at h
        simp only at h
        injection h with h
        subst h
        cases k with
        | zero =>
          rw [List.getElem?_cons_zero] at htk
          injection htk with htk
          subst htk
          rw [List.set_cons_zero, List.set_cons_zero, partsF, if_pos ht]
          rw [Nat.add_zero] at hy
          rw [hy, h2]
          rfl
        | succ k =>
          rw [List.getElem?_cons_succ] at htk
          rw [List.set_cons_succ, List.set_cons_succ, partsF, h1, parts_set ns ts (i + 1) k us t (by simpa using hl) (by simpa using hk) htk ht h2 (by rw [show i + 1 + k = i + (k + 1) by omega]; exact hy)]
          rfl
theorem opnd_any {rs : List Rul} {f : Nat} {n : Tre} {path q : List Int} {p : Prt} (h : opndF (listM rs f) n path = .ok p) : opndF (listM rs f) n q = .ok p := by
  have h1 := opnd_shift (p := path) (list_shift rs path f) n []
  rw [List.append_nil, h] at h1
  have h2 := opnd_shift (p := q) (list_shift rs q f) n []
  rw [List.append_nil] at h2
  cases h3 : opndF (listM rs f) n [] with
  | bad e r => rw [h3] at h1; cases h1
  | ok a =>
    rw [h3] at h1 h2
    injection h1 with h1
    rw [h2, h1]
    rfl
theorem set_ne {α : Type} {l : List α} {k q : Nat} {a : α} (h : q ≠ k) : l[q]? = (l.set k a)[q]? := (List.getElem?_set_ne (fun e => h e.symm)).symm
theorem tok_brk {rs : List Rul} (x : Tre) : tokN rs (brkT x) = some hashS := by
  have h1 : operB rs (brkT x) = false := by
    unfold operB
    rw [unsc_no (n := brkT x) (show scrB (11 : Int) = false by decide)]
    rfl
  unfold tokN
  rw [if_neg (by rw [h1]; simp), if_neg (by rintro ⟨h, _⟩; exact absurd (show (11 : Int) = 2 from h) (by decide))]
/-- THE LAW of brackets, for lists -/
theorem list_brk {rs : List Rul} (hv : validB rs = true) {F : Nat} {items : List Tre} {ts : List ByteArray} {m : Trm} {k : Nat} {x : Tre} {t : ByteArray} (hc : countL items < F) (hts : toksN rs items = .inl ts) (hx : items[k]? = some x) (ht : ts[k]? = some t) (ht2 : t.data.toList = [35]) (h : listM rs (F + 2) items [] 0 = .ok m) : ∃ g, listM rs (F + 2) (items.set k (brkT x)) [] 0 = .ok g ∧ GrpIn m g := by
  have hl := toksN_len hts
  have hk : k < items.length := (List.getElem?_eq_some_iff.1 hx).1
  have h0 := toks_at hts k x hx
  have htx : tokN rs x = some hashS := by
    rw [tokN_eq, if_pos h0.2]
    rw [ht] at h0
    have h1 := Option.some.inj h0.1
    have ho := tok_hash hv (n := x) (by rw [← h1]; exact ht2)
    unfold tokS
    rw [if_neg (by rw [ho]; simp)]
  have hts' := toks_set (x := x) (y := brkT x) (by rw [tok_brk, htx]) items k hx
  rw [listM] at h ⊢
  unfold listF at h ⊢
  rw [if_neg (by omega)] at h
  rw [if_neg (by rw [List.length_set]; omega)]
  rw [List.drop_zero] at h ⊢
  rw [hts', hts]
  rw [hts] at h
  dsimp only at h ⊢
  cases hr : readsM rs ts with
  | nil => rw [hr] at h; cases h
  | cons y yr =>
    cases yr with
    | cons z zr => rw [hr] at h; cases h
    | nil =>
      rw [hr] at h
      dsimp only at h ⊢
      have hmem : y ∈ allR rs ts 0 ts.length := by
        unfold readsM at hr
        split at hr
        · rw [hr]; exact List.mem_cons_self
        · cases hr
      cases hp : partsF rs (listM rs (F + 1)) [] (fun i => kndR rs ((ruleA (asgR rs y ts.length) ts.length).getD i 0)) 0 items ts 0 with
      | bad e q => rw [hp] at h; cases h
      | ok ps =>
        rw [hp] at h
        simp only [Mea.then_] at h
        injection h with h
        obtain ⟨h1, h2⟩ := parts_at items ts 0 ps hl.symm hp
        obtain ⟨p, h3, h4⟩ := h2 k x t hx ht
        rw [if_pos ht2] at h4
        have hcx : countT x ≤ countL items := by
          have h6 := count_take hx
          have h7 := countL_app (items.take (k + 1)) (items.drop (k + 1))
          rw [List.take_append_drop] at h7
          omega
        have h5 : opndF (listM rs F) x ([] ++ [((0 + (0 + k) : Nat) : Int)]) = .ok p := by
          rw [← h4]
          refine opnd_congr fun d hd q j => ?_
          have hcd : countT d ≤ countL x.kids := by
            obtain ⟨i, hi⟩ := List.getElem?_of_mem hd
            have h6 := count_take hi
            have h7 := countL_app (x.kids.take (i + 1)) (x.kids.drop (i + 1))
            rw [List.take_append_drop] at h7
            omega
          have h8 := count_kids x
          have h9 := count_kids d
          exact list_fuel rs F (F + 1) d.kids q j (by omega) (by omega)
        have h6 := brk_opnd (path := ([] ++ [((0 + (0 + k) : Nat) : Int)])) (p := p) hv (n := x) (f := F) (by rw [toksN, htx]; rfl) fun q => ⟨p, opnd_any h5, rfl⟩
        rw [parts_set items ts 0 k ps t hl.symm hk ht ht2 hp h6]
        refine ⟨_, rfl, ?_⟩
        rw [← h]
        refine trm_grp hv (k0 := k) (p := p) (p' := ⟨grpT p.opnd, [], ⟨#[]⟩, ⟨#[]⟩⟩) h3 (List.getElem?_set_self (by omega)) rfl (fun q hq => set_ne hq) (by rw [tok_at ht]; exact decide_eq_true ht2) _ 0 ts.length y (Nat.le_refl _) (Nat.zero_le _) (by omega) hmem
end Go.Proofs.YthpioplpfmlgcaaGreatDoor.El
namespace Go.Proofs.YthpioplpfmlgcaaGreatDoor.El
open Go.Proofs.YthpioplpfmlgcaaGreatDoor.At
open Go.Proofs.YthpioplpfmlgcaaGreatDoor.Ch
open Go.Proofs.YthpioplpfmlgcaaGreatDoor.Sp
open Go.Proofs.YthpioplpfmlgcaaGreatDoor.Sy
open Go.RowKit
/-- a failure of a list -/
def badE {α : Type} (m : Mea α) : Prop := ∀ e p, m = .bad e p → e = 14 ∨ e = 15
theorem badE.ok {α : Type} (a : α) : badE (Mea.ok a) := fun e p h => by cases h
theorem badE.then_ {α β : Type} {m : Mea α} {f : α → Mea β} (h : badE m) (hf : ∀ a, m = .ok a → badE (f a)) : badE (m.then_ f) := by
  intro e p he
  cases m with
  | bad e' p' =>
    have he2 : (Mea.bad e' p' : Mea β) = .bad e p := he
    injection he2 with h1 h2
    rw [← h1]
    exact h e' p' rfl
  | ok a => exact hf a rfl e p he
theorem slots_err {M : List Tre → List Int → Nat → Mea Trm} {path : List Int} : ∀ (ks : List Tre) (s b : Nat), (∀ d ∈ ks, ∀ p k, badE (M d.kids p k)) → badE (slotsF M path ks s b)
  | [], _, _, _ => by rw [slotsF]; exact badE.ok _
  | n :: ns, s, b, h => by
    rw [slotsF]
    exact (h n List.mem_cons_self _ _).then_ fun t _ => (slots_err ns _ _ fun d hd => h d (List.mem_cons_of_mem _ hd)).then_ fun ts _ => badE.ok _
theorem opnd_err {M : List Tre → List Int → Nat → Mea Trm} {n : Tre} {path : List Int} (h : ∀ d ∈ n.kids, ∀ p k, badE (M d.kids p k)) : badE (opndF M n path) := by
  unfold opndF
  split
  · exact badE.ok _
  split
  · exact badE.ok _
  split
  · exact badE.ok _
  · refine badE.then_ ?_ fun ts _ => badE.ok _
    cases hk : n.kids with
    | nil => exact badE.ok _
    | cons d ks =>
      rw [hk] at h
      dsimp only
      split
      · exact slots_err ks 1 0 fun e he => h e (List.mem_cons_of_mem _ he)
      · exact slots_err (d :: ks) 0 0 h
theorem scr_err {rs : List Rul} {M : List Tre → List Int → Nat → Mea Trm} {n : Tre} {path : List Int} {p : Bool} (h : ∀ d ∈ n.kids, ∀ p k, badE (M d.kids p k)) : badE (scrF rs M n path p) := by
  unfold scrF
  split
  · exact badE.ok _
  · exact (slots_err _ _ _ fun d hd => h d (List.mem_of_mem_tail hd)).then_ fun ts _ => badE.ok _
theorem partsF_err {rs : List Rul} {M : List Tre → List Int → Nat → Mea Trm} {path : List Int} {kd : Nat → Int} {k : Nat} : ∀ (ns : List Tre) (ts : List ByteArray) (i : Nat), (∀ n ∈ ns, ∀ d ∈ n.kids, ∀ p k, badE (M d.kids p k)) → badE (partsF rs M path kd k ns ts i)
  | [], ts, i, _ => by
    have : partsF rs M path kd k [] ts i = .ok [] := by cases ts <;> simp [partsF]
    rw [this]; exact badE.ok _
  | n :: ns, [], i, _ => by
    have : partsF rs M path kd k (n :: ns) [] i = .ok [] := by simp [partsF]
    rw [this]; exact badE.ok _
  | n :: ns, t :: ts, i, h => by
    rw [partsF]
    refine badE.then_ ?_ fun x _ => (partsF_err ns ts (i + 1) fun m hm => h m (List.mem_cons_of_mem _ hm)).then_ fun ps _ => badE.ok _
    split
    · exact opnd_err (h n List.mem_cons_self)
    · exact scr_err (h n List.mem_cons_self)
theorem mem_count {l : List Tre} {t : Tre} (h : t ∈ l) : countT t ≤ countL l := by
  obtain ⟨i, hi⟩ := List.getElem?_of_mem h
  have h6 := count_take hi
  have h7 := countL_app (l.take (i + 1)) (l.drop (i + 1))
  rw [List.take_append_drop] at h7
  omega
theorem list_err (rs : List Rul) : ∀ (f : Nat) (items : List Tre) (path : List Int) (k : Nat), countL items < f → badE (listM rs f items path k)
  | 0, _, _, _, h => absurd h (by omega)
  | f + 1, items, path, k, h => by
    rw [listM]
    unfold listF
    split
    · intro e p he; injection he with h1 h2; exact .inr h1.symm
    split
    · intro e p he; injection he with h1 h2; exact .inr h1.symm
    split
    · intro e p he; injection he with h1 h2; exact .inr h1.symm
    · refine (partsF_err _ _ _ fun n hn d hd p j => list_err rs f d.kids p j ?_).then_ fun ps _ => badE.ok _
      have h1 := mem_count hn
      have h2 := mem_count hd
      have h3 := count_drop items k
      have h4 := count_kids n
      have h5 := count_kids d
      omega
    · intro e p he; injection he with h1 h2; exact .inl h1.symm
/-- a failure whose position is not too long -/
def badN {α : Type} (N : Nat) (m : Mea α) : Prop := ∀ e p, m = .bad e p → p.length ≤ N
theorem badN.ok {α : Type} (N : Nat) (a : α) : badN N (Mea.ok a) := fun e p h => by cases h
theorem badN.then_ {α β : Type} {N : Nat} {m : Mea α} {f : α → Mea β} (h : badN N m) (hf : ∀ a, m = .ok a → badN N (f a)) : badN N (m.then_ f) := by
  intro e p he
  cases m with
  | bad e' p' =>
    have he2 : (Mea.bad e' p' : Mea β) = .bad e p := he
    injection he2 with h1 h2
    rw [← h2]
    exact h e' p' rfl
  | ok a => exact hf a rfl e p he
theorem SoFar.get {tot : Mea (List Trm)} {xs us : List Trm} {m : Mea Trm} {r : Mea (List Trm)} {t : Trm} (h : SoFar tot xs (m.then_ fun t => r.then_ fun ts => .ok (t :: ts))) (hm : m = .ok t) (ht : tot = .ok us) : us[xs.length]? = some t := by
  unfold SoFar at h
  rw [ht, hm] at h
  cases hr : r with
  | bad e p => rw [hr] at h; cases h
  | ok ts =>
    rw [hr] at h
    simp only [Mea.then_] at h
    injection h with h
    rw [h, List.getElem?_append_right (Nat.le_refl _), Nat.sub_self]
    rfl
end Go.Proofs.YthpioplpfmlgcaaGreatDoor.El
namespace Go.Proofs.YthpioplpfmlgcaaGreatDoor.El
open Go.Proofs.YthpioplpfmlgcaaGreatDoor.At
open Go.Proofs.YthpioplpfmlgcaaGreatDoor.Ch
open Go.Proofs.YthpioplpfmlgcaaGreatDoor.Sp
open Go.Proofs.YthpioplpfmlgcaaGreatDoor.Sy
open Go.RowKit
/-- what Tree answers with, of both sorts -/
def outT : Mea Trm → Int × List Int × Trm
  | .ok t => (0, [], t)
  | .bad e p => (e, p, zerT)
theorem TreeP.flat {m : Mea Trm} {w w' : World} {e : Ending} (h : TreeP m w e w') : ∃ cm A cp, e = .returned (.tuple #[.agg cm, .slice A (outT m).2.1.length cp, .int .i64 (outT m).1]) ∧ TmAt (fun b => w.heap.size ≤ b) w' (outT m).2.2 cm ∧ PathAt w' A (outT m).2.1 ∧ (outT m).2.1.length ≤ cp ∧ cp ≤ 9223372036854775807 ∧ Below w.heap.size w w' := by
  cases m with
  | ok t =>
    obtain ⟨⟨c, h1, h2⟩, hb⟩ := h
    exact ⟨c, none, 0, h1, h2, path_nil, Nat.le_refl _, by omega, hb⟩
  | bad er p =>
    obtain ⟨⟨A, cp, h1, h2, h3, h4⟩, hb⟩ := h
    exact ⟨zerC, A, cp, h1, zer_at _ _, h2, h3, h4, hb⟩
end Go.Proofs.YthpioplpfmlgcaaGreatDoor.El
namespace Go.Proofs.YthpioplpfmlgcaaGreatDoor.El
open Go.Proofs.YthpioplpfmlgcaaGreatDoor.At
open Go.Proofs.YthpioplpfmlgcaaGreatDoor.Ch
open Go.Proofs.YthpioplpfmlgcaaGreatDoor.Sp
open Go.Proofs.YthpioplpfmlgcaaGreatDoor.Sy
open Go.RowKit
theorem OwnToks.len {w : World} {B : Nat} {v : Value} {ts : List ByteArray} (h : OwnToks w B v ts) : ∃ A cp, v = .slice A ts.length cp := by
  obtain ⟨h1, h2⟩ := h
  rcases h2 with ⟨rfl, h0⟩ | ⟨gq, cap, cur, rfl, hg, hb, hn, hc, hs, ht⟩
  · exact ⟨none, 0, by rw [h0]⟩
  · exact ⟨_, cap, rfl⟩
theorem OwnToks.get {w : World} {B : Nat} {A : Option Addr} {cp : Nat} {ts : List ByteArray} (h : OwnToks w B (.slice A ts.length cp) ts) {q : Nat} {t : ByteArray} (hq : ts[q]? = some t) : ∃ g, A = some ⟨g, 0, none⟩ ∧ g < w.heap.size ∧ w.cell? ⟨g, q, none⟩ = some (.string t) := by
  obtain ⟨h1, h2⟩ := h
  rcases h2 with ⟨e, h0⟩ | ⟨gq, cap, cur, e, hg, hb, hn, hc, hs, ht⟩
  · rw [List.length_eq_zero_iff.1 h0] at hq; simp at hq
  · injection e with e1 e2 e3
    have hb' : Blk w gq 9 cur := hb
    refine ⟨gq, e1, hb'.lt, ?_⟩
    have h3 : (ts.map Value.string)[q]? = some (.string t) := by rw [List.getElem?_map, hq]; rfl
    rw [← ht, List.getElem?_take] at h3
    split at h3
    · rw [hb'.cell, ← Array.getElem?_toList]; exact h3
    · cases h3
theorem OwnToks.keep {w w' : World} {B : Nat} {v : Value} {ts : List ByteArray} (h : OwnToks w B v ts) (hb : Below w.heap.size w w') : OwnToks w' B v ts := World.ownsRow.kept (row := none) h ⟨hb.os, hb.tape, hb.output, hb.size, fun i hi _ => hb.block i hi⟩ (by cases v.ownBlock <;> simp)
end Go.Proofs.YthpioplpfmlgcaaGreatDoor.El
