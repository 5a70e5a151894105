/- A meaning is a well-formed term, with at most twice as many subterms as the tree has nodes: plain · Equal of the reference · How many readings valid rules have at most: plain · An operand in brackets: the meaning has one group more: plain -/
import Derived.Test.YthpioplpfmlgcaaGreatDoorHd52c70be
import Derived.Test.YthpioplpfmlgcaaGreatDoorHfbed354a
import Derived.Test.YthpioplpfmlgcaaGreatDoorH09685d45
import Derived.Deep.RegionWith
import Derived.Deep.DeepCutAuto
import Derived.Test.YthpioplpfmlgcaaGreatDoorH4c6de665
import Derived.Test.YthpioplpfmlgcaaGreatDoorH95b2a9f9
import Derived.Test.YthpioplpfmlgcaaGreatDoorH64d930c9
namespace Go.Proofs.YthpioplpfmlgcaaGreatDoor.El
open Go.Proofs.YthpioplpfmlgcaaGreatDoor.At
open Go.Proofs.YthpioplpfmlgcaaGreatDoor.Ch
open Go.Proofs.YthpioplpfmlgcaaGreatDoor.Sp
open Go.Proofs.YthpioplpfmlgcaaGreatDoor.Sy
open Go.RowKit
theorem formML_app : ∀ (a b : List Trm), formML (a ++ b) = (formML a && formML b)
  | [], b => by rw [formML, Bool.true_and]; rfl
  | t :: a, b => by rw [List.cons_append, formML, formML, formML_app a b, Bool.and_assoc]
theorem cntL_app : ∀ (a b : List Trm), cntL (a ++ b) = cntL a + cntL b
  | [], b => by rw [cntL, Nat.zero_add]; rfl
  | t :: a, b => by rw [List.cons_append, cntL, cntL, cntL_app a b]; omega
def formOk (f : ByteArray) (n : Nat) : Prop := prinL 33 f.data.toList = true ∧ f.data.toList.length ≤ n
theorem form_app {a b : ByteArray} {n m : Nat} (ha : formOk a n) (hb : formOk b m) (h : n + m ≤ 16) : formOk (a ++ b) 16 := by
  unfold formOk at *
  rw [ByteArray.data_append, Array.toList_append]
  refine ⟨?_, by rw [List.length_append]; omega⟩
  unfold prinL at *
  rw [List.all_append, ha.1, hb.1]; rfl
theorem own4 {nam f : ByteArray} {n : Nat} (hn : namedB nam.data.toList = true) (hf : formOk f 16) : ownM 4 nam.data.toList (⟨#[]⟩ : ByteArray).data.toList f.data.toList n = true := by
  unfold ownM
  rw [if_neg (by decide), if_neg (by decide), if_neg (by decide), if_pos rfl, hf.1, decide_eq_true hf.2, hn]
  rfl
theorem own5 {nam v f : ByteArray} {n : Nat} (hn : namedB nam.data.toList = true) (hf : formOk f 16) (hv : idB v.data.toList = true) (h0 : 0 < n) : ownM 5 nam.data.toList v.data.toList f.data.toList n = true := by
  unfold ownM
  rw [if_neg (by decide), if_neg (by decide), if_neg (by decide), if_neg (by decide), if_pos rfl, hf.1, decide_eq_true hf.2, hn, hv, decide_eq_true h0]
  rfl
def finOk (f : ByteArray) : Prop := f = ⟨#[]⟩ ∨ f = subS ∨ f = supS ∨ f = bothS
theorem fin_form {f : ByteArray} (h : finOk f) : formOk f 4 := by
  rcases h with rfl | rfl | rfl | rfl <;> exact ⟨by decide, by decide⟩
theorem formS_form (k : Int) : formOk (formS k) 9 := by
  unfold formS
  split
  · exact ⟨by decide, by decide⟩
  split
  · exact ⟨by decide, by decide⟩
  split
  · exact ⟨by decide, by decide⟩
  · exact ⟨by decide, by decide⟩
theorem mkOp_form {nam : ByteArray} {k : Int} {po : Option Prt} {args : List Trm} (hn : namedB nam.data.toList = true) (hp : ∀ p, po = some p → finOk p.fin ∧ (p.vr.data.toList = [] ∨ idB p.vr.data.toList = true) ∧ formML p.scr = true) (ha : formML args = true) (h0 : args ≠ []) : formM (mkOp nam k po args) = true := by
  unfold mkOp
  cases po with
  | none =>
    dsimp only
    rw [formM, own4 hn ⟨(formS_form k).1, by have := (formS_form k).2; omega⟩, ha]; rfl
  | some p =>
    obtain ⟨h1, h2, h3⟩ := hp p rfl
    dsimp only
    split
    · rw [formM, own4 hn (form_app (formS_form k) (fin_form h1) (by omega)), formML_app, h3, ha]; rfl
    · next hne =>
      rw [formM, own5 hn (form_app (n := 4) (m := 4) ⟨by decide, by decide⟩ (fin_form h1) (by omega)) (h2.resolve_left hne) (by
        rw [List.length_append]
        have := List.length_pos_iff.2 h0
        omega), formML_app, h3, ha]; rfl
theorem mkOp_cnt {nam : ByteArray} {k : Int} {po : Option Prt} {args : List Trm} : cntM (mkOp nam k po args) = (match po with
  | none => 0
  | some p => cntL p.scr) + cntL args + 1 := by
  unfold mkOp
  cases po with
  | none => dsimp only; rw [cntM]; omega
  | some p =>
    dsimp only
    split
    · rw [cntM, cntL_app]
    · rw [cntM, cntL_app]
/-- parts of tokens; S: how many subterms there may be up to an index -/
def PsOk (ts : List ByteArray) (ps : List Prt) (S : Nat → Nat) (m : Nat) : Prop := ∀ q, q < m → ∃ t p, ts[q]? = some t ∧ ps[q]? = some p ∧
  (t.data.toList = [35] → formM p.opnd = true ∧ cntM p.opnd + 1 + S q ≤ S (q + 1)) ∧
  (t.data.toList ≠ [35] → (finOk p.fin ∧ (p.vr.data.toList = [] ∨ idB p.vr.data.toList = true) ∧ formML p.scr = true) ∧ cntL p.scr + 2 + S q ≤ S (q + 1))
theorem name_ok {rs : List Rul} (hv : validB rs = true) {n : Nat} {u : Rul} (hu : rs[n]? = some u) : namedB (nameR rs n).data.toList = true := by
  have h := valid_own hv hu
  unfold ownB at h
  rw [Bool.and_eq_true] at h
  unfold nameR
  rw [Int.toNat_natCast, hu, ← ByteArray.toList_eq]
  exact h.1
theorem trm_form {rs : List Rul} (hv : validB rs = true) {ts : List ByteArray} {ps : List Prt} {S : Nat → Nat} : ∀ (m i j : Nat) (x : Rd), j - i ≤ m → PsOk ts ps S j → x ∈ allR rs ts i j → formM (trmR rs ps x (j : Int)) = true ∧ cntM (trmR rs ps x (j : Int)) + 1 + S i ≤ S j
  | 0, i, j, x, hm, _, h => by have := mem_lt h; omega
  | m + 1, i, j, x, hm, hI, h => by
    have hij := mem_lt h
    have sub : ∀ j', j' ≤ j → PsOk ts ps S j' := fun j' hj q hq => hI q (by omega)
    have opr : ∀ (q n : Nat) (u : Rul), q < j → rs[n]? = some u → tokB ts q u.sym.toList = true → ∃ p, ps[q]? = some p ∧ (finOk p.fin ∧ (p.vr.data.toList = [] ∨ idB p.vr.data.toList = true) ∧ formML p.scr = true) ∧ cntL p.scr + 2 + S q ≤ S (q + 1) := by
      intro q n u hq hu htk
      obtain ⟨t, p, h2, h4, _, h5⟩ := hI q hq
      rw [tok_at h2] at htk
      have hne : t.data.toList ≠ [35] := by rw [of_decide_eq_true htk]; exact sym_hash hv hu
      exact ⟨p, h4, h5 hne⟩
    rcases (mem_all hij).1 h with ⟨rfl, ht, rfl⟩ | ⟨n, u, hu, hr⟩
    · obtain ⟨t, p, h2, h4, h5, _⟩ := hI i (by omega)
      rw [tok_at h2] at ht
      rw [trm_eqn, if_pos (by decide), Int.toNat_natCast, h4]
      exact h5 (of_decide_eq_true ht)
    · rcases hr with ⟨hk, k, y, z, h3, h4, htk, hy, hz, rfl⟩ | ⟨hk, y, htk, hy, rfl⟩ | ⟨hk, y, htk, hy, rfl⟩ | ⟨hk, k, y, z, h3, h4, hy, hz, rfl⟩
      · have ho := op_inf (i := i) (j := j) (y := y) hu hk (mem_least_at hz).1
        obtain ⟨p, hp, h5, h6⟩ := opr k n u (by omega) hu htk
        have e1 := trm_form hv m i k y (by omega) (sub k (by omega)) (mem_least.1 hy).1
        have e2 := trm_form hv m (k + 1) j z (by omega) hI (mem_least.1 hz).1
        rw [trm_eqn, if_neg (show ¬ ((n : Int) < 0) by omega), ho.1, ho.2, if_pos (Int.natCast_nonneg _), Int.toNat_natCast, hp]
        refine ⟨mkOp_form (name_ok hv hu) (fun p' e => by rw [← Option.some.inj e]; exact h5) (by simp only [trmL, formML, e1.1, e2.1]; rfl) (by simp [trmL]), ?_⟩
        rw [mkOp_cnt]
        simp only [trmL, cntL]
        omega
      · have ho := op_pre (i := i) (j := j) (y := y) hu hk
        obtain ⟨p, hp, h5, h6⟩ := opr i n u (by omega) hu htk
        have e1 := trm_form hv m (i + 1) j y (by omega) hI (mem_least.1 hy).1
        rw [trm_eqn, if_neg (show ¬ ((n : Int) < 0) by omega), ho.1, ho.2, if_pos (Int.natCast_nonneg _), Int.toNat_natCast, hp]
        refine ⟨mkOp_form (name_ok hv hu) (fun p' e => by rw [← Option.some.inj e]; exact h5) (by simp only [trmL, formML, e1.1]; rfl) (by simp [trmL]), ?_⟩
        rw [mkOp_cnt]
        simp only [trmL, cntL]
        omega
      · have ho := op_pos (i := i) (j := j) (y := y) hu hk (by omega)
        obtain ⟨p, hp, h5, h6⟩ := opr (j - 1) n u (by omega) hu htk
        have e1 := trm_form hv m i (j - 1) y (by omega) (sub _ (by omega)) (mem_least.1 hy).1
        rw [show j - 1 + 1 = j by omega] at h6
        rw [trm_eqn, if_neg (show ¬ ((n : Int) < 0) by omega), ho.1, ho.2, if_pos (Int.natCast_nonneg _), Int.toNat_natCast, hp]
        refine ⟨mkOp_form (name_ok hv hu) (fun p' e => by rw [← Option.some.inj e]; exact h5) (by simp only [trmL, formML, e1.1]; rfl) (by simp [trmL]), ?_⟩
        rw [mkOp_cnt]
        simp only [trmL, cntL]
        omega
      · have ho := op_jux (i := i) (j := j) (y := y) hu hk (mem_least_at hz).1
        have e1 := trm_form hv m i k y (by omega) (sub k (by omega)) (mem_least.1 hy).1
        have e2 := trm_form hv m k j z (by omega) hI (mem_least.1 hz).1
        rw [trm_eqn, if_neg (show ¬ ((n : Int) < 0) by omega), ho.1, ho.2, if_neg (c := 0 ≤ (-1 : Int)) (by omega)]
        refine ⟨mkOp_form (name_ok hv hu) (fun p' e => by cases e) (by simp only [trmL, formML, e1.1, e2.1]; rfl) (by simp [trmL]), ?_⟩
        rw [mkOp_cnt]
        simp only [trmL, cntL]
        omega
/-- what is known of the meanings of lists -/
def GoodM (M : List Tre → List Int → Nat → Mea Trm) : Prop := ∀ items p k t, formL 1 items = true → M items p k = .ok t → formM t = true ∧ cntM t + 1 ≤ 2 * countL items
theorem slot_form {n d : Tre} (h : formT n = true) (hk : n.kind ≠ 1) (hd : d ∈ n.kids) : formL 1 d.kids = true := by
  obtain ⟨k, t, c, ks⟩ := n
  rw [formT, Bool.and_eq_true] at h
  have key : ∀ (ks : List Tre), formL k ks = true → d ∈ ks → formT d = true ∧ badPair k d.kind = false := by
    intro ks
    induction ks with
    | nil => intro _ h; cases h
    | cons x ks ih =>
      intro h hs
      rw [formL] at h
      simp only [Bool.and_eq_true, Bool.not_eq_true'] at h
      rcases List.mem_cons.1 hs with rfl | hs
      · exact ⟨h.2.1, h.1⟩
      · exact ih h.2.2 hs
  obtain ⟨h1, h2⟩ := key ks h.2 hd
  have h3 : d.kind = 1 := by
    unfold badPair at h2
    rw [show decide (k = 1) = false from decide_eq_false hk] at h2
    by_cases e : d.kind = 1
    · exact e
    · rw [decide_eq_false e] at h2; cases h2
  obtain ⟨k', t', c', ks'⟩ := d
  rw [formT, Bool.and_eq_true] at h1
  change k' = 1 at h3
  rw [h3] at h1
  exact h1.2
theorem count_kids (d : Tre) : countT d = countL d.kids + 1 := by
  obtain ⟨k, t, c, ks⟩ := d
  rw [countT]; rfl
theorem slots_form {M : List Tre → List Int → Nat → Mea Trm} {path : List Int} (hM : GoodM M) : ∀ (ks : List Tre) (s b : Nat) (ts : List Trm), (∀ d ∈ ks, formL 1 d.kids = true) → slotsF M path ks s b = .ok ts → formML ts = true ∧ cntL ts ≤ 2 * countL ks
  | [], _, _, ts, _, h => by
    rw [slotsF] at h
    injection h with h
    subst h
    exact ⟨by rw [formML], by rw [cntL]; omega⟩
  | n :: ns, s, b, ts, hf, h => by
    rw [slotsF] at h
    cases h1 : M n.kids (path ++ [(s : Int)]) b with
    | bad e p => rw [h1] at h; cases h
    | ok t =>
      rw [h1] at h
      simp only [Mea.then_] at h
      cases h2 : slotsF M path ns (s + 1) 0 with
      | bad e p => rw [h2] at h; cases h
      | ok us =>
        rw [h2] at h
        simp only at h
        injection h with h
        subst h
        have e1 := hM _ _ _ _ (hf n List.mem_cons_self) h1
        have e2 := slots_form hM ns _ _ us (fun d hd => hf d (List.mem_cons_of_mem _ hd)) h2
        refine ⟨by rw [formML, e1.1, e2.1]; rfl, ?_⟩
        rw [cntL, countL, count_kids n]
        omega
theorem opnd_good {M : List Tre → List Int → Nat → Mea Trm} {path : List Int} (hM : GoodM M) {n : Tre} {p : Prt} (hF : formT n = true) (hk1 : n.kind ≠ 1) (hid : n.kind = 2 → idB n.text.data.toList = true) (h : opndF M n path = .ok p) : formM p.opnd = true ∧ cntM p.opnd + 1 ≤ 2 * countT n := by
  have hown : textB n.kind n.text.data.toList = true ∧ kidsB n.kind n.cols n.kids.length = true := by
    obtain ⟨k, t, c, ks⟩ := n
    rw [formT, Bool.and_eq_true, ownT, Bool.and_eq_true] at hF
    exact hF.1
  obtain ⟨htx, hkd⟩ := hown
  have hsl : ∀ d ∈ n.kids, formL 1 d.kids = true := fun d hd => slot_form hF hk1 hd
  have hct := count_kids n
  have leaf : ∀ k : Int, k = 1 ∨ k = 2 ∨ k = 3 → ownM k n.text.data.toList [] [] 0 = true → formM (.mk k n.text ⟨#[]⟩ ⟨#[]⟩ []) = true ∧ cntM (.mk k n.text ⟨#[]⟩ ⟨#[]⟩ []) + 1 ≤ 2 * countT n := by
    intro k _ ho
    refine ⟨?_, by rw [cntM, cntL]; omega⟩
    rw [formM, formML, Bool.and_true]
    exact ho
  unfold opndF at h
  split at h
  · next h2 =>
    injection h with h
    subst h
    exact leaf 2 (by simp) (by unfold ownM; rw [if_neg (by decide), if_pos rfl, hid h2]; rfl)
  · split at h
    · next h2 h3 =>
      injection h with h
      subst h
      refine leaf 1 (by simp) ?_
      unfold textB at htx
      rw [if_neg (by omega), if_pos h3] at htx
      unfold ownM; rw [if_pos rfl, htx]; rfl
    · split at h
      · next h2 h3 h4 =>
        injection h with h
        subst h
        refine leaf 3 (by simp) ?_
        unfold textB at htx
        rw [if_neg (by omega), if_neg (by omega), if_pos h4, Bool.and_eq_true] at htx
        unfold ownM
        rw [if_neg (by decide), if_neg (by decide), if_pos rfl, htx.1, show prinL 32 n.text.data.toList = prinB n.text.data.toList from rfl, htx.2]
        rfl
      · next h2 h3 h4 =>
        have key : ∀ m : Mea (List Trm), (∀ ts, m = .ok ts → formML ts = true ∧ cntL ts ≤ 2 * countL n.kids) → (m.then_ fun ts => Mea.ok ⟨Trm.mk 4 (shapeN n).1 ⟨#[]⟩ (shapeN n).2 ts, [], ⟨#[]⟩, ⟨#[]⟩⟩) = .ok p → formM p.opnd = true ∧ cntM p.opnd + 1 ≤ 2 * countT n := by
          intro m hm h
          cases hq : m with
          | bad e q => rw [hq] at h; cases h
          | ok ts =>
            rw [hq] at h
            simp only [Mea.then_] at h
            injection h with h
            subst h
            obtain ⟨e1, e2⟩ := hm ts hq
            refine ⟨?_, by rw [cntM]; omega⟩
            have hsh : namedB (shapeN n).1.data.toList = true ∧ formOk (shapeN n).2 16 := by
              unfold shapeN
              split
              · exact ⟨by decide, by decide, by decide⟩
              split
              · refine ⟨?_, show prinL 33 rootS.data.toList = true by decide, show rootS.data.toList.length ≤ 16 by decide⟩
                dsimp only
                split
                · split <;> decide
                · decide
              split
              · exact ⟨by decide, by decide, by decide⟩
              split
              · exact ⟨by decide, by decide, by decide⟩
              split
              · exact ⟨by decide, by decide, by decide⟩
              split
              · next h10 =>
                refine ⟨?_, show prinL 33 accS.data.toList = true by decide, show accS.data.toList.length ≤ 16 by decide⟩
                unfold textB at htx
                rw [if_neg (by omega), if_neg (by omega), if_neg (by omega), if_pos h10] at htx
                unfold inB at htx
                have hm := List.contains_iff_mem.1 htx
                have : ∀ a ∈ accentsL, namedB a = true := by decide
                exact this _ hm
              split
              · next h12 =>
                refine ⟨show namedB matS.data.toList = true by decide, ?_⟩
                unfold kidsB at hkd
                rw [if_pos h12, Bool.and_eq_true, decide_eq_true_eq] at hkd
                have hc : n.cols.toNat ≤ 16 := by omega
                refine form_app (n := 6) (m := 2) ⟨by decide, by decide⟩ ?_ (by omega)
                generalize n.cols.toNat = m at hc
                have : ∀ m, m ≤ 16 → prinL 33 (Lib.decDigits m) = true ∧ (Lib.decDigits m).length ≤ 2 := by decide +kernel
                have h9 := this m hc
                exact ⟨by simpa [bys] using h9.1, by simpa [bys] using h9.2⟩
              · next h5 h6 h7 h8 h9 h10 h12 =>
                have h11 : n.kind = 11 := by
                  unfold kidsB at hkd
                  rw [if_neg h12, Bool.and_eq_true, if_neg hk1, if_neg (by omega), if_neg (by omega), if_neg h9] at hkd
                  have h13 := hkd.2
                  split at h13
                  · omega
                  · cases h13
                unfold textB at htx
                rw [if_neg (by omega), if_neg (by omega), if_neg (by omega), if_neg (by omega), if_pos h11] at htx
                refine ⟨?_, form_app (n := 5) (m := 2) ⟨by decide, by decide⟩ ?_ (by omega)⟩
                · dsimp only
                  split <;> decide
                · unfold fencB at htx
                  unfold formOk
                  split at htx
                  · next a b hab =>
                    rw [hab]
                    rw [Bool.and_eq_true] at htx
                    unfold hasB at htx
                    have : ∀ c ∈ delimL, (decide (33 ≤ c.toNat) && decide (c.toNat ≤ 126)) = true := by decide
                    have h1 := this a (List.contains_iff_mem.1 htx.1)
                    have h2 := this b (List.contains_iff_mem.1 htx.2)
                    exact ⟨by unfold prinL; rw [List.all_cons, List.all_cons, h1, h2]; rfl, by simp⟩
                  · cases htx
            rw [formM, own4 hsh.1 hsh.2, e1]; rfl
        refine key _ (fun ts hts => ?_) h
        cases hk : n.kids with
        | nil =>
          rw [hk] at hts
          dsimp only at hts
          injection hts with hts
          subst hts
          exact ⟨by rw [formML], by rw [cntL]; omega⟩
        | cons d ks =>
          rw [hk] at hts hsl
          dsimp only at hts
          split at hts
          · have := slots_form hM ks 1 0 ts (fun e he => hsl e (List.mem_cons_of_mem _ he)) hts
            exact ⟨this.1, by rw [countL]; omega⟩
          · exact slots_form hM (d :: ks) 0 0 ts hsl hts
theorem scr_good {rs : List Rul} {M : List Tre → List Int → Nat → Mea Trm} {path : List Int} (hM : GoodM M) {n : Tre} {pre : Bool} {p : Prt} (hF : formT n = true) (hk1 : n.kind ≠ 1) (h : scrF rs M n path pre = .ok p) : (finOk p.fin ∧ (p.vr.data.toList = [] ∨ idB p.vr.data.toList = true) ∧ formML p.scr = true) ∧ cntL p.scr + 2 ≤ 2 * countT n := by
  have hct := count_kids n
  unfold scrF at h
  split at h
  · injection h with h
    subst h
    exact ⟨⟨.inl rfl, .inl rfl, by rw [zerP, formML]⟩, by rw [zerP, cntL]; omega⟩
  · cases hs : slotsF M path n.kids.tail 1 (if (varN rs n pre).isSome then 2 else 0) with
    | bad e q => rw [hs] at h; cases h
    | ok ts =>
      rw [hs] at h
      simp only [Mea.then_] at h
      injection h with h
      subst h
      have e1 := slots_form hM _ _ _ ts (fun d hd => slot_form hF hk1 (List.mem_of_mem_tail hd)) hs
      have e2 : countL n.kids.tail ≤ countL n.kids := by
        cases n.kids with
        | nil => exact Nat.le_refl _
        | cons d ks => rw [List.tail_cons, countL]; omega
      refine ⟨⟨?_, ?_, e1.1⟩, by dsimp only; omega⟩
      · show finOk (endS n.kind)
        unfold endS finOk
        split
        · exact .inr (.inl rfl)
        split
        · exact .inr (.inr (.inl rfl))
        · exact .inr (.inr (.inr rfl))
      · dsimp only
        cases hq : varN rs n pre with
        | none => exact .inl rfl
        | some v =>
          right
          rw [Option.getD_some]
          unfold varN at hq
          split at hq
          · split at hq
            · unfold bindN at hq
              split at hq
              · split at hq
                · next hc => injection hq with hq; rw [← hq]; exact hc.1.2.1
                · cases hq
              · cases hq
            · cases hq
          · cases hq
theorem parts_at {rs : List Rul} {M : List Tre → List Int → Nat → Mea Trm} {path : List Int} {kd : Nat → Int} {k : Nat} : ∀ (ns : List Tre) (ts : List ByteArray) (i : Nat) (ps : List Prt), ns.length = ts.length → partsF rs M path kd k ns ts i = .ok ps → ps.length = ns.length ∧ ∀ q n t, ns[q]? = some n → ts[q]? = some t → ∃ p, ps[q]? = some p ∧ (if t.data.toList = [35] then opndF M n (path ++ [((k + (i + q) : Nat) : Int)]) else scrF rs M n (path ++ [((k + (i + q) : Nat) : Int)]) (decide (kd (i + q) = 2))) = .ok p
  | [], ts, i, ps, _, h => by
    have : (Mea.ok [] : Mea (List Prt)) = .ok ps := by rw [← h]; cases ts <;> simp [partsF]
    injection this with this
    subst this
    exact ⟨rfl, fun q n t hn => by simp at hn⟩
  | n :: ns, [], i, ps, hl, _ => by simp at hl
  | n :: ns, t :: ts, i, ps, hl, h => by
    rw [partsF] at h
    cases h1 : (if t.data.toList = [35] then opndF M n (path ++ [((k + i : Nat) : Int)]) else scrF rs M n (path ++ [((k + i : Nat) : Int)]) (decide (kd i = 2))) with
    | bad e p => rw [h1] at h; cases h
    | ok x =>
      rw [h1] at h
      simp only [Mea.then_] at h
      cases h2 : partsF rs M path kd k ns ts (i + 1) with
      | bad e p => rw [h2] at h; cases h
      | ok us =>
        rw [h2] at h
        simp only at h
        injection h with h
        subst h
        obtain ⟨h3, h4⟩ := parts_at ns ts (i + 1) us (by simpa using hl) h2
        refine ⟨by rw [List.length_cons, List.length_cons, h3], fun q m u hm hu => ?_⟩
        cases q with
        | zero =>
          rw [List.getElem?_cons_zero] at hm hu
          injection hm with hm; injection hu with hu
          subst hm; subst hu
          exact ⟨x, rfl, h1⟩
        | succ q =>
          rw [List.getElem?_cons_succ] at hm hu
          obtain ⟨y, h5, h6⟩ := h4 q m u hm hu
          exact ⟨y, by rw [List.getElem?_cons_succ]; exact h5, by rw [show i + (q + 1) = i + 1 + q by omega]; exact h6⟩
theorem countL_app : ∀ (a b : List Tre), countL (a ++ b) = countL a + countL b
  | [], b => by rw [countL, Nat.zero_add]; rfl
  | t :: a, b => by rw [List.cons_append, countL, countL, countL_app a b]; omega
theorem count_take {l : List Tre} {q : Nat} {n : Tre} (h : l[q]? = some n) : countL (l.take (q + 1)) = countL (l.take q) + countT n := by
  rw [List.take_add_one, h, Option.toList_some, countL_app, countL, countL]; omega
theorem count_drop (l : List Tre) (k : Nat) : countL (l.drop k) ≤ countL l := by
  have := countL_app (l.take k) (l.drop k)
  rw [List.take_append_drop] at this
  omega
theorem formL_at {k : Int} : ∀ {ts : List Tre}, formL k ts = true → ∀ t ∈ ts, formT t = true ∧ badPair k t.kind = false
  | [], _, t, h => by cases h
  | x :: ts, hf, t, h => by
    rw [formL] at hf
    simp only [Bool.and_eq_true, Bool.not_eq_true'] at hf
    rcases List.mem_cons.1 h with rfl | h
    · exact ⟨hf.2.1, hf.1⟩
    · exact formL_at hf.2.2 t h
theorem sy_hash {rs : List Rul} (hv : validB rs = true) : hasSy rs [35] = false := by
  unfold hasSy
  rw [show (!([35] : List UInt8).isEmpty) = true from rfl, Bool.true_and, List.any_eq_false]
  intro u hu h
  obtain ⟨n, hn⟩ := List.getElem?_of_mem hu
  exact sym_hash hv hn (by rw [ByteArray.toList_eq]; exact of_decide_eq_true h)
theorem tok_hash {rs : List Rul} (hv : validB rs = true) {n : Tre} (h : (tokS rs n).data.toList = [35]) : operB rs n = false := by
  cases ho : operB rs n with
  | false => rfl
  | true =>
    unfold tokS at h
    rw [if_pos ho] at h
    unfold operB at ho
    rw [Bool.and_eq_true, h, sy_hash hv] at ho
    cases ho.2
/-- THE LAW -/
theorem list_good {rs : List Rul} (hv : validB rs = true) : ∀ f, GoodM (listM rs f)
  | 0 => fun items p k t _ h => by rw [listM] at h; cases h
  | f + 1 => fun items path k t hF h => by
    have hM := list_good hv f
    rw [listM] at h
    unfold listF at h
    split at h
    · cases h
    · split at h
      · cases h
      · next ts hts =>
        split at h
        · cases h
        · next x hx =>
          have hmem : x ∈ allR rs ts 0 ts.length := by
            unfold readsM at hx
            split at hx
            · rw [hx]; exact List.mem_cons_self
            · cases hx
          cases hp : partsF rs (listM rs f) path (fun i => kndR rs ((ruleA (asgR rs x ts.length) ts.length).getD i 0)) k (items.drop k) ts 0 with
          | bad e q => rw [hp] at h; cases h
          | ok ps =>
            rw [hp] at h
            simp only [Mea.then_] at h
            injection h with h
            subst h
            have hl := toksN_len hts
            obtain ⟨hpl, hpa⟩ := parts_at _ _ _ ps hl.symm hp
            have hps : PsOk ts ps (fun q => 2 * countL ((items.drop k).take q)) ts.length := by
              intro q hq
              obtain ⟨n, hn⟩ : ∃ n, (items.drop k)[q]? = some n := ⟨_, List.getElem?_eq_getElem (by omega)⟩
              obtain ⟨h1, h2⟩ := toks_at hts q n hn
              obtain ⟨p, h3, h4⟩ := hpa q n _ hn h1
              obtain ⟨h5, h6⟩ := formL_at hF n (List.mem_of_mem_drop (List.mem_of_getElem? hn))
              have hk1 : n.kind ≠ 1 := by
                intro e
                rw [e] at h6
                simp [badPair] at h6
              have hc := count_take hn
              refine ⟨_, p, h1, h3, fun ht => ?_, fun ht => ?_⟩
              · rw [if_pos ht] at h4
                have ho := tok_hash hv ht
                have := opnd_good hM h5 hk1 (fun e => by
                  unfold rolB at h2
                  rw [ho, decide_eq_true e] at h2
                  simpa using h2) h4
                refine ⟨this.1, ?_⟩
                have h7 := this.2
                show cntM p.opnd + 1 + 2 * countL ((items.drop k).take q) ≤ 2 * countL ((items.drop k).take (q + 1))
                omega
              · rw [if_neg ht] at h4
                have := scr_good hM h5 hk1 h4
                refine ⟨this.1, ?_⟩
                have h7 := this.2
                show cntL p.scr + 2 + 2 * countL ((items.drop k).take q) ≤ 2 * countL ((items.drop k).take (q + 1))
                omega
            obtain ⟨h1, h2⟩ := trm_form hv _ 0 ts.length x (Nat.le_refl _) hps hmem
            refine ⟨h1, ?_⟩
            have h3 := count_drop items k
            rw [hl, List.take_length, List.take_zero, countL] at h2
            rw [← hl] at h2
            omega
        · cases h
theorem list_valid {rs : List Rul} (hv : validB rs = true) {f : Nat} {items : List Tre} {path : List Int} {k : Nat} {t : Trm} (hF : formL 1 items = true) (hc : countL items ≤ 500) (h : listM rs f items path k = .ok t) : validM t = true := by
  obtain ⟨h1, h2⟩ := list_good hv f items path k t hF h
  unfold validM
  rw [h1, decide_eq_true (by omega)]
  rfl
end Go.Proofs.YthpioplpfmlgcaaGreatDoor.El
namespace Go.Proofs.YthpioplpfmlgcaaGreatDoor.Sp
open Go.Proofs.YthpioplpfmlgcaaGreatDoor.At
open Go.RowKit
mutual
def eqM : Trm → Trm → Bool
  | .mk k a v f ts, u => (k == u.kind && (a.toList == u.nam.toList && (v.toList == u.vr.toList && (f.toList == u.form.toList && decide (ts.length = u.args.length))))) && eqL ts u.args
def eqL : List Trm → List Trm → Bool
  | [], us => us.isEmpty
  | t :: ts, us => match us with
    | [] => false
    | u :: us => eqM t u && eqL ts us
end
theorem bytes_eq {a b : ByteArray} (h : (a.toList == b.toList) = true) : a = b := by
  rw [beq_iff_eq, ByteArray.toList_eq, ByteArray.toList_eq] at h
  apply ByteArray.ext
  exact Array.toList_inj.1 h
mutual
theorem eqM_iff : ∀ t u : Trm, eqM t u = true ↔ t = u
  | .mk k a v f ts, .mk k' a' v' f' us => by
    unfold eqM
    simp only [Trm.kind, Trm.nam, Trm.vr, Trm.form, Trm.args, Bool.and_eq_true, beq_iff_eq]
    constructor
    · rintro ⟨⟨rfl, h1, h2, h3, h4⟩, h5⟩
      rw [bytes_eq (beq_iff_eq.2 h1), bytes_eq (beq_iff_eq.2 h2), bytes_eq (beq_iff_eq.2 h3), (eqL_iff ts us).1 h5]
    · intro e
      injection e with e1 e2 e3 e4 e5
      subst e1; subst e2; subst e3; subst e4; subst e5
      exact ⟨⟨rfl, rfl, rfl, rfl, decide_eq_true rfl⟩, (eqL_iff ts ts).2 rfl⟩
theorem eqL_iff : ∀ ts us : List Trm, eqL ts us = true ↔ ts = us
  | [], us => by unfold eqL; rw [List.isEmpty_iff]; exact eq_comm
  | t :: ts, [] => by unfold eqL; simp
  | t :: ts, u :: us => by
    unfold eqL
    simp only [Bool.and_eq_true]
    rw [eqM_iff t u, eqL_iff ts us, List.cons.injEq]
end
theorem eqL_snoc {ts us : List Trm} {j : Nat} {x y : Trm} (h1 : ts[j]? = some x) (h2 : us[j]? = some y) : eqL (ts.take (j + 1)) (us.take (j + 1)) = (eqL (ts.take j) (us.take j) && eqM x y) := by
  rw [Bool.eq_iff_iff, Bool.and_eq_true, eqL_iff, eqL_iff, eqM_iff, List.take_add_one, List.take_add_one, h1, h2]
  have l1 : j < ts.length := (List.getElem?_eq_some_iff.1 h1).1
  have l2 : j < us.length := (List.getElem?_eq_some_iff.1 h2).1
  constructor
  · intro e
    have := List.append_inj e (by simp; omega)
    exact ⟨this.1, by simpa using this.2⟩
  · rintro ⟨e, rfl⟩
    rw [e]
theorem eqL_false {ts us : List Trm} {j : Nat} (h : eqL (ts.take j) (us.take j) = false) : eqL ts us = false := by
  cases hq : eqL ts us
  · rfl
  · rw [(eqL_iff ts us).1 hq] at h
    rw [(eqL_iff _ _).2 rfl] at h
    cases h
set_option maxRecDepth 100000 in
set_option maxHeartbeats 4000000 in
theorem requal_any : ∀ (z : Nat) (t u : Trm) (c d : Array Value) (w : World), cntM t ≤ z → MAt w t c → MAt w u d → Calls Tryz.prog 16 #[.agg c, .agg d] w fun e w' => e = .returned (.bool (eqM t u)) ∧ Below w.heap.size w w' := by
  intro z
  induction z with
  | zero => intro t u c d w h; have := cnt_pos t; omega
  | succ z ih =>
    intro t u c d w hz hM hM2
    have IH := Lib.hid ih
    clear ih
    obtain ⟨A, cap, rfl, ha, hv, hf, hl, hc, hk⟩ := hM.form
    obtain ⟨A', cap', rfl, ha', hv', hf', hl', hc', hk'⟩ := hM2.form
    obtain ⟨k, a, v, f, ts⟩ := t
    obtain ⟨k', a', v', f', us⟩ := u
    dsimp only [Trm.kind, Trm.nam, Trm.vr, Trm.form, Trm.args] at ha hv hf hl hk ha' hv' hf' hl' hk' ⊢
    have HQ := Lib.hid (show eqM (.mk k a v f ts) (.mk k' a' v' f' us) = ((k == k' && (a.toList == a'.toList && (v.toList == v'.toList && (f.toList == f'.toList && decide (ts.length = us.length))))) && eqL ts us) by unfold eqM; rfl)
    have HZ := Lib.hid (show cntL ts ≤ z by rw [cntM] at hz; omega)
    have HW := Lib.hid (show (w.alloc (.cells (trmC k a v A ts.length cap f) 31)).heap.size = w.heap.size + 1 by simp)
    have B1 := bel_alloc w (.cells (trmC k a v A ts.length cap f) 31)
    have B2 := bel_alloc (w.alloc (.cells (trmC k a v A ts.length cap f) 31)) (.cells (trmC k' a' v' A' us.length cap' f') 31)
    have HB := Lib.hid (B1.trans (B2.mono B1.size))
    have HK := Lib.hid (hk.keep HB.out)
    have HK' := Lib.hid (hk'.keep HB.out)
    have K0 := Lib.hid (keep B2 (Blk.new w 31 (trmC k a v A ts.length cap f)))
    have K1 : Hid (Blk ((w.alloc (.cells (trmC k a v A ts.length cap f) 31)).alloc (.cells (trmC k' a' v' A' us.length cap' f') 31)) (w.heap.size + 1) 31 (trmC k' a' v' A' us.length cap' f')) := by
      show Blk _ _ _ _
      rw [← HW.out]
      exact Blk.new _ _ _
    clear hM hM2 hk hk' B1 B2 HW hz
    dsimp only [trmC] at HB HK HK' K0 K1
    have c0 := K0.out.cell 0
    have c1 := K0.out.cell 1
    have c2 := K0.out.cell 2
    have c3 := K0.out.cell 3
    have c4 := K0.out.cell 4
    have e0 := K1.out.cell 0
    have e1 := K1.out.cell 1
    have e2 := K1.out.cell 2
    have e3 := K1.out.cell 3
    have e4 := K1.out.cell 4
    go_enter Tryz.func16, Tryz.ntmps16
    cases q0 : (k == k')
    · rw [q0] at HQ
      have n0 : (k != k') = true := by rw [bne, q0]; rfl
      go_wp2_with fail
      go_ret
      exact ⟨ret_bool (by rw [HQ.out]; rfl), HB.out⟩
    have n0 : (k != k') = false := by rw [bne, q0]; rfl
    rw [q0, Bool.true_and] at HQ
    replace q0 := Lib.hid q0
    cases q1 : (a.toList == a'.toList)
    · rw [q1] at HQ
      have n1 : (!(a.toList == a'.toList)) = true := by rw [q1]; rfl
      go_wp2_with fail
      go_ret
      exact ⟨ret_bool (by rw [HQ.out]; rfl), HB.out⟩
    have n1 : (!(a.toList == a'.toList)) = false := by rw [q1]; rfl
    rw [q1, Bool.true_and] at HQ
    replace q1 := Lib.hid q1
    cases q2 : (v.toList == v'.toList)
    · rw [q2] at HQ
      have n2 : (!(v.toList == v'.toList)) = true := by rw [q2]; rfl
      go_wp2_with fail
      go_ret
      exact ⟨ret_bool (by rw [HQ.out]; rfl), HB.out⟩
    have n2 : (!(v.toList == v'.toList)) = false := by rw [q2]; rfl
    rw [q2, Bool.true_and] at HQ
    replace q2 := Lib.hid q2
    cases q4 : (f.toList == f'.toList)
    · rw [q4] at HQ
      have n4 : (!(f.toList == f'.toList)) = true := by rw [q4]; rfl
      go_wp2_with fail
      go_ret
      exact ⟨ret_bool (by rw [HQ.out]; rfl), HB.out⟩
    have n4 : (!(f.toList == f'.toList)) = false := by rw [q4]; rfl
    rw [q4, Bool.true_and] at HQ
    replace q4 := Lib.hid q4
    by_cases hn : ts.length ≠ us.length
    · have n3 : ((ts.length : Int) != (us.length : Int)) = true := by rw [bne_iff_ne]; omega
      rw [decide_eq_false hn] at HQ
      clear hn
      go_wp2_with fail
      go_ret
      exact ⟨ret_bool (by rw [HQ.out]; rfl), HB.out⟩
    have n3 : ((ts.length : Int) != (us.length : Int)) = false := by rw [bne_eq_false_iff_eq]; omega
    replace hn : ts.length = us.length := Classical.not_not.1 hn
    rw [decide_eq_true hn, Bool.true_and] at HQ
    replace hn := Lib.hid hn
    go_wp2_with fail
    clear c0 c1 c2 c3 c4 e0 e1 e2 e3 e4
    generalize (w.alloc (.cells #[.int .i64 k, .string a, .string v, .slice A ts.length cap, .string f] 31)).alloc (.cells #[.int .i64 k', .string a', .string v', .slice A' us.length cap', .string f'] 31) = w1 at *
    go_loopw [5] (fun i wr => ∃ j : Nat, j ≤ ts.length ∧ i = .int .i64 j ∧ Hid (eqL (ts.take j) (us.take j) = true) ∧ Hid (Blk wr w.heap.size 31 #[.int .i64 k, .string a, .string v, .slice A ts.length cap, .string f]) ∧ Hid (Blk wr (w.heap.size + 1) 31 #[.int .i64 k', .string a', .string v', .slice A' us.length cap', .string f']) ∧ Hid (ArgsAt wr A ts) ∧ Hid (ArgsAt wr A' us) ∧ Hid (Below w.heap.size w wr)) (fun i _ => ts.length - (intOf i).toNat)
    case atStart => exact ⟨0, by omega, rfl, rfl, K0, K1, HK, HK', HB⟩
    case round =>
      clear K0 K1 HK HK' HB
      obtain ⟨j, hj, rfl, HJ, K0, K1, HK, HK', HB⟩ := hrel
      have c3 := K0.out.cell 3
      have e3 := K1.out.cell 3
      by_cases hlt : j < ts.length
      · obtain ⟨x, hx⟩ : ∃ x, ts[j]? = some x := ⟨_, List.getElem?_eq_getElem hlt⟩
        obtain ⟨y, hy⟩ : ∃ y, us[j]? = some y := ⟨_, List.getElem?_eq_getElem (by have := hn.out; omega)⟩
        obtain ⟨ad, A2, cap2, rfl, hadl, hp⟩ := HK.out.at_ hx
        obtain ⟨ad', A3, cap3, rfl, hadl', hp'⟩ := HK'.out.at_ hy
        have HX := Lib.hid hp.whole
        have HY := Lib.hid hp'.whole
        obtain ⟨hb1, d0, d1, d2, d3, d4, -⟩ := hp
        obtain ⟨hb2, g0, g1, g2, g3, g4, -⟩ := hp'
        have HS := Lib.hid (show cntM x ≤ z by have := cnt_arg hx; have := HZ.out; omega)
        have HSN := Lib.hid (eqL_snoc hx hy)
        rw [HJ.out, Bool.true_and] at HSN
        have HFA := Lib.hid (fun h => eqL_false (ts := ts) (us := us) (j := j + 1) h)
        have hlu : (j : Int) < (us.length : Int) := by have := hn.out; omega
        clear hx hy
        go_wp2_with fail
        go_upto_region 6 with (fail)
        refine wp_region_ext (by kernel_rfl) (by kernel_rfl) ?_
        have EC := fun e : Ext wr => (keep e.bel K0.out).cell 3
        have EE := fun e : Ext wr => (keep e.bel K1.out).cell 3
        have D0 := fun e : Ext wr => e.cell hb1 d0
        have D1 := fun e : Ext wr => e.cell (p := ⟨(ad.add (j * 5)).block, (ad.add (j * 5)).off + 1, none⟩) hb1 d1
        have D2 := fun e : Ext wr => e.cell (p := ⟨(ad.add (j * 5)).block, (ad.add (j * 5)).off + 2, none⟩) hb1 d2
        have D3 := fun e : Ext wr => e.cell (p := ⟨(ad.add (j * 5)).block, (ad.add (j * 5)).off + 3, none⟩) hb1 d3
        have D4 := fun e : Ext wr => e.cell (p := ⟨(ad.add (j * 5)).block, (ad.add (j * 5)).off + 4, none⟩) hb1 d4
        have G0 := fun e : Ext wr => e.cell hb2 g0
        have G1 := fun e : Ext wr => e.cell (p := ⟨(ad'.add (j * 5)).block, (ad'.add (j * 5)).off + 1, none⟩) hb2 g1
        have G2 := fun e : Ext wr => e.cell (p := ⟨(ad'.add (j * 5)).block, (ad'.add (j * 5)).off + 2, none⟩) hb2 g2
        have G3 := fun e : Ext wr => e.cell (p := ⟨(ad'.add (j * 5)).block, (ad'.add (j * 5)).off + 3, none⟩) hb2 g3
        have G4 := fun e : Ext wr => e.cell (p := ⟨(ad'.add (j * 5)).block, (ad'.add (j * 5)).off + 4, none⟩) hb2 g4
        have HC := Lib.hid (fun e : Ext wr => Calls.ext (IH.out x y _ _ e.val HS.out (HX.out.keep e.bel) (HY.out.keep e.bel)))
        clear c3 e3 d0 d1 d2 d3 d4 g0 g1 g2 g3 g4
        repeat (go_big_quiet_step (fail))
        go_big_quiet_step ((rename_i e; exact HC.out e))
        repeat (go_big_quiet_step (fail))
        refine wpQuiet_nil ?_
        intro wq hwq
        obtain ⟨⟨w9, hb⟩, e9⟩ := hwq
        dsimp only at e9
        subst e9
        replace K0 := Lib.hid (keep hb K0.out)
        replace K1 := Lib.hid (keep hb K1.out)
        replace HK := Lib.hid (HK.out.keep hb)
        replace HK' := Lib.hid (HK'.out.keep hb)
        replace HB := Lib.hid (HB.out.trans (hb.mono HB.out.size))
        clear EC EE D0 D1 D2 D3 D4 G0 G1 G2 G3 G4 HC hb hb1 hb2 HX HY
        cases hr : eqM x y
        · have hq : eqL ts us = false := HFA.out (by rw [HSN.out, hr])
          rw [hq] at HQ
          clear hr hq
          go_wp2_with fail
          go_ret
          exact ⟨ret_bool (by rw [HQ.out]), HB.out⟩
        · rw [hr] at HSN
          clear hr
          go_wp2_with fail
          go_roundw
          case rel => exact ⟨j + 1, by omega, by go_num, HSN, K0, K1, HK, HK', HB⟩
          case measure => simp [intOf]; omega
      · obtain rfl : j = ts.length := by omega
        have hq : eqL ts us = true := by
          have h := HJ.out
          rw [List.take_length, hn.out, List.take_length] at h
          exact h
        rw [hq] at HQ
        clear hq
        go_wp2_with fail
        go_ret
        exact ⟨ret_bool (by rw [HQ.out]), HB.out⟩
end Go.Proofs.YthpioplpfmlgcaaGreatDoor.Sp
namespace Go.Proofs.YthpioplpfmlgcaaGreatDoor.Ch
end Go.Proofs.YthpioplpfmlgcaaGreatDoor.Ch
namespace Go.Proofs.YthpioplpfmlgcaaGreatDoor.El
open Go.Proofs.YthpioplpfmlgcaaGreatDoor.At
open Go.Proofs.YthpioplpfmlgcaaGreatDoor.Ch
open Go.Proofs.YthpioplpfmlgcaaGreatDoor.Sp
open Go.Proofs.YthpioplpfmlgcaaGreatDoor.Sy
open Go.RowKit
theorem one_read {rs : List Rul} (hv : validB rs = true) : readsM rs [hashS] = [.mk (-1) 0 []] := by
  unfold readsM
  rw [hv, show toksB [hashS] = true by decide +kernel, if_pos (by rfl), show ([hashS] : List ByteArray).length = 1 from rfl, all_eq (by omega)]
  unfold bodyR
  rw [show baseR [hashS] 0 1 = [.mk (-1) 0 []] by unfold baseR; rw [if_pos ⟨rfl, by decide +kernel⟩]; rfl]
  have hn : ∀ (n : Nat), ofRule rs [hashS] (allR rs [hashS]) 0 1 n = [] := by
    intro n
    unfold ofRule
    cases rs[n]? with
    | none => rfl
    | some u =>
      dsimp only
      rw [all_none (Nat.le_refl 1), show 1 - 1 = 0 from rfl, all_none (Nat.le_refl 0)]
      split
      · rfl
      split
      · split <;> rfl
      split
      · split <;> rfl
      split <;> rfl
  rw [flatMap_congr' (g := fun _ => []) fun n _ => hn n, flatMap_nil', List.append_nil]
/-- the meaning of a list of one operand -/
theorem one_list {rs : List Rul} (hv : validB rs = true) {f : Nat} {n : Tre} {path : List Int} (ht : toksN rs [n] = .inl [hashS]) : listM rs (f + 1) [n] path 0 = (opndF (listM rs f) n (path ++ [0])).then_ fun p => .ok p.opnd := by
  rw [listM]
  unfold listF
  rw [if_neg (by simp), List.drop_zero, ht]
  dsimp only
  rw [one_read hv]
  dsimp only
  rw [partsF, partsF, if_pos (by decide)]
  · rw [show ((0 + 0 : Nat) : Int) = 0 from rfl]
    cases opndF (listM rs f) n (path ++ [0]) with
    | bad e p => rfl
    | ok p =>
      simp only [Mea.then_]
      rw [trm_eqn, if_pos (by decide)]
      rfl
  · intro a b c d h1; cases h1
mutual
theorem eq_self : ∀ t : Trm, eqM t t = true
  | .mk k a v f ts => by
    rw [eqM]
    simp only [Trm.kind, Trm.nam, Trm.vr, Trm.form, Trm.args, beq_self_eq_true, decide_true, Bool.true_and]
    exact eq_selfL ts
theorem eq_selfL : ∀ ts : List Trm, eqL ts ts = true
  | [] => by rw [eqL]; rfl
  | t :: ts => by rw [eqL, eq_self t, eq_selfL ts]; rfl
end
end Go.Proofs.YthpioplpfmlgcaaGreatDoor.El
