/- region_mono with a ghost of values and of block numbers; for every program · Contracts of the meanings: what list, operand, scripts give; slots, plain -/
import Derived.Test.YthpioplpfmlgcaaGreatDoorHa7e9456e
import Derived.Test.YthpioplpfmlgcaaGreatDoorH7ddf38bc
import Derived.Test.YthpioplpfmlgcaaGreatDoorH60feb87a
import Derived.Test.YthpioplpfmlgcaaGreatDoorH7ebbf4d5
import Derived.Test.YthpioplpfmlgcaaGreatDoorH48bf4e8a
namespace Go.Proofs.YthpioplpfmlgcaaGreatDoor
open Go.RowKit
/-- values and block numbers that are not known beforehand -/
structure Gh where
  v : Nat → Value
  n : Nat → Nat
@[reducible] def Gh.setV (x : Gh) (k : Nat) (u : Value) : Gh := ⟨fun j => if j = k then u else x.v j, x.n⟩
@[reducible] def Gh.setN (x : Gh) (k : Nat) (u : Nat) : Gh := ⟨x.v, fun j => if j = k then u else x.n j⟩
def Gh.zero : Gh := ⟨fun _ => .nilFunc, fun _ => 0⟩
section
variable {P : Program} {ops : Array Oper} {Q : Exit → Act → World → Prop} {X : Type}
theorem MonoAll.nil : MonoAll ([] : List (Nat × (X → World → Prop))) := fun p hp => by cases hp
theorem MonoAll.cons {p : Nat × (X → World → Prop)} {cs : List (Nat × (X → World → Prop))} (h : ∀ (x : X) (w w' : World), p.2 x w → Below w.heap.size w w' → p.2 x w') (t : MonoAll cs) : MonoAll (p :: cs) := fun q hq => by
  rcases List.mem_cons.1 hq with rfl | hq
  · exact h
  · exact t q hq
/-- a tail's operation with a known result -/
theorem wpOps_gives {i : Nat} {l : List Nat} {o : Oper} {a : Act} {w : World} {R : Value → World → Prop} (ho : ops[i]? = some o) (hg : o.guard = none) (h : Gives P (execOp a.eval o) w R) (hK : ∀ v w', R v w' → wpOps P ops Q l (a.put o.dst v) w') : wpOps P ops Q (i :: l) a w :=
  wpOps_step ho hg (Gives.wp h hK)
theorem wpOps_skip {i : Nat} {l : List Nat} {o : Oper} {a : Act} {w w' : World} (ho : ops[i]? = some o) (hg : o.guard = none) (h : (execOp a.eval o).run P w = .ok .skip w') (hK : wpOps P ops Q l (a.put o.dst undef) w') : wpOps P ops Q (i :: l) a w :=
  wpOps_gives ho hg (Gives.skip (R := fun u w1 => u = undef ∧ w1 = w') h ⟨rfl, rfl⟩) fun _ _ ⟨e1, e2⟩ => by rw [e1, e2]; exact hK
theorem wpOps_done {a : Act} {w : World} (h : Q .normal a w) : wpOps P ops (onlyN Q) [] a w := ⟨rfl, h⟩
end
end Go.Proofs.YthpioplpfmlgcaaGreatDoor
namespace Go.Proofs.YthpioplpfmlgcaaGreatDoor.El
open Go.Proofs.YthpioplpfmlgcaaGreatDoor.At
open Go.Proofs.YthpioplpfmlgcaaGreatDoor.Ch
open Go.Proofs.YthpioplpfmlgcaaGreatDoor.Sp
open Go.Proofs.YthpioplpfmlgcaaGreatDoor.Sy
open Go.RowKit
abbrev zerC : Array Value := #[.int .i64 0, .string ⟨#[]⟩, .string ⟨#[]⟩, .slice none 0 0, .string ⟨#[]⟩]
theorem zer_at (ok : Nat → Prop) (w : World) : TmAt ok w zerT zerC := TmAt.zero ok w 0 ⟨#[]⟩ (by decide)
theorem grown5 (x : World) (g : Nat) (c0 c1 c2 c3 c4 : Value) : x.grownBy (((((x.setCell ⟨g, 0, none⟩ c0).setCell ⟨g, 1, none⟩ c1).setCell ⟨g, 2, none⟩ c2).setCell ⟨g, 3, none⟩ c3).setCell ⟨g, 4, none⟩ c4) (some g) :=
  grown_two (grown_two (grown_two (grown_two (grown_set' x ⟨g, 0, none⟩ c0) (grown_set' _ ⟨g, 1, none⟩ c1)) (grown_set' _ ⟨g, 2, none⟩ c2)) (grown_set' _ ⟨g, 3, none⟩ c3)) (grown_set' _ ⟨g, 4, none⟩ c4)
theorem set5 {x : World} {g : Nat} {t : TypeId} {d0 d1 d2 d3 d4 : Value} (h : Blk x g t #[d0, d1, d2, d3, d4]) (c0 c1 c2 c3 c4 : Value) : Blk (((((x.setCell ⟨g, 0, none⟩ c0).setCell ⟨g, 1, none⟩ c1).setCell ⟨g, 2, none⟩ c2).setCell ⟨g, 3, none⟩ c3).setCell ⟨g, 4, none⟩ c4) g t #[c0, c1, c2, c3, c4] := ((((h.set_ 0 c0).set_ 1 c1).set_ 2 c2).set_ 3 c3).set_ 4 c4
theorem below5 {B : Nat} {w x : World} (h : Below B w x) (hB : B ≤ x.heap.size) {g : Nat} (hg : B ≤ g) (c0 c1 c2 c3 c4 : Value) : Below B w (((((x.setCell ⟨g, 0, none⟩ c0).setCell ⟨g, 1, none⟩ c1).setCell ⟨g, 2, none⟩ c2).setCell ⟨g, 3, none⟩ c3).setCell ⟨g, 4, none⟩ c4) :=
  h.grown (grown5 x g c0 c1 c2 c3 c4) hB fun r e => by have := Option.some.inj e; omega
theorem _root_.Go.Proofs.YthpioplpfmlgcaaGreatDoor.Sp.AppT.grownT {P : Nat → Prop} {w w' : World} {B : Nat} {v : Value} {xs : List Trm} {row : Option Nat} (h : AppT P w B v xs) (hg : w.grownBy w' row) (hv : ∀ b, v.ownBlock = some b → row ≠ some b) (hP : ∀ b, P b → some b ≠ row) : AppT P w' B v xs := by
  obtain ⟨css, h1, h2, h3⟩ := h
  refine ⟨css, World.ownsRow.kept h1 hg ?_, h2, fun j c x hj hx => (h3 j c x hj hx).grown hg (fun b _ hb => hP b hb.2) (fun _ _ h => h)⟩
  cases hq : v.ownBlock with
  | none => exact .inl rfl
  | some b => exact .inr fun e => hv b hq e.symm
theorem _root_.Go.Proofs.YthpioplpfmlgcaaGreatDoor.Sp.AppT.weak {P P' : Nat → Prop} {w : World} {B : Nat} {v : Value} {xs : List Trm} (h : AppT P w B v xs) (hP : ∀ b, b < w.heap.size → P b → P' b) : AppT P' w B v xs := OwnT.any h fun b hb ho => ⟨ho.1, hP b hb ho.2⟩
theorem _root_.Go.Proofs.YthpioplpfmlgcaaGreatDoor.Sp.AppT.ltT {P : Nat → Prop} {w : World} {B : Nat} {v : Value} {xs : List Trm} (h : AppT P w B v xs) : ∀ r, v.ownBlock = some r → B ≤ r ∧ r < w.heap.size := OwnT.lt h
/-- what a call of list has come to; lo, hi: between which blocks the new term lies -/
def LRes (lo hi : Nat) (m : Mea Trm) (w : World) (c f : Value) : Prop := match m with
  | .ok t => ∃ cc, c = .agg cc ∧ f = .pointer none ∧ TmAt (fun b => lo ≤ b ∧ b < hi) w t cc
  | .bad er p => c = .agg zerC ∧ ∃ g, f = .pointer (some ⟨g, 0, none⟩) ∧ FailAt (fun b => lo ≤ b ∧ b < hi) w g er p
theorem LRes.keep {lo hi : Nat} {m : Mea Trm} {w w' : World} {c f : Value} (h : LRes lo hi m w c f) (hb : Below w.heap.size w w') : LRes lo hi m w' c f := by
  cases m with
  | ok t => obtain ⟨cc, h1, h2, h3⟩ := h; exact ⟨cc, h1, h2, h3.keep hb⟩
  | bad er p => obtain ⟨h1, g, h2, h3⟩ := h; exact ⟨h1, g, h2, h3.keep hb⟩
/-- behind list -/
def MeaP (m : Mea Trm) (w : World) (e : Ending) (w' : World) : Prop := (match m with
  | .ok t => ∃ c, e = .returned (.tuple #[.agg c, .pointer none]) ∧ TmAt (fun b => w.heap.size ≤ b) w' t c
  | .bad er p => ∃ g, e = .returned (.tuple #[.agg zerC, .pointer (some ⟨g, 0, none⟩)]) ∧ FailAt (fun b => w.heap.size ≤ b) w' g er p) ∧ Below w.heap.size w w'
theorem tm_hi {ok : Nat → Prop} {w : World} {t : Trm} {c : Array Value} (h : TmAt ok w t c) : TmAt (fun b => ok b ∧ b < w.heap.size) w t c := h.any fun _ hb ho => ⟨ho, hb⟩
theorem MeaP.res {m : Mea Trm} {w : World} {e : Ending} {w' : World} (h : MeaP m w e w') : ∃ c f, e = .returned (.tuple #[c, f]) ∧ LRes w.heap.size w'.heap.size m w' c f ∧ Below w.heap.size w w' := by
  obtain ⟨h1, hb⟩ := h
  cases m with
  | ok t =>
    obtain ⟨c, rfl, ht⟩ := h1
    exact ⟨_, _, rfl, ⟨c, rfl, rfl, tm_hi ht⟩, hb⟩
  | bad er p =>
    obtain ⟨g, rfl, hf⟩ := h1
    exact ⟨_, _, rfl, ⟨rfl, g, rfl, hf.any fun _ h1 h2 => ⟨h2, h1⟩⟩, hb⟩
/-- behind operand -/
def OpndP (m : Mea Prt) (w : World) (e : Ending) (w' : World) : Prop := (match m with
  | .ok p => ∃ c, e = .returned (.tuple #[.agg c, .pointer none]) ∧ TmAt (fun b => w.heap.size ≤ b) w' p.opnd c
  | .bad er q => ∃ g, e = .returned (.tuple #[.agg zerC, .pointer (some ⟨g, 0, none⟩)]) ∧ FailAt (fun b => w.heap.size ≤ b) w' g er q) ∧ Below w.heap.size w w'
/-- the contract of list for items with less than some nodes -/
def ListC (g : Nat) (A : Option Addr) (cap : Nat) (rs : List Rul) (f : Nat) : Prop := ∀ (items : List Tre) (path : List Int) (k : Nat) (A1 Ap : Option Addr) (c1 cp : Nat) (w : World), RdrAt w g A cap rs → KidsAt w A1 items → items.length ≤ c1 → c1 ≤ 9223372036854775807 → PathAt w Ap path → path.length + countL items + 1 ≤ 900000 → countL items < f → formL 1 items = true → k ≤ 2 →
  Calls Tryz.prog 37 #[.pointer (some ⟨g, 0, none⟩), .slice A1 items.length c1, .slice Ap path.length cp, .int .i64 k] w (MeaP (listM rs f items path k) w)
/-- the rest of the slots of an operand, from an index on -/
def skipB (n : Tre) (s : Nat) : Bool := decide (n.kind = 6) && (decide (s = 0) && (match n.kids with
  | d :: _ => d.kids.isEmpty
  | [] => false))
def restF (M : List Tre → List Int → Nat → Mea Trm) (n : Tre) (path : List Int) (s : Nat) : Mea (List Trm) := if skipB n s = true then slotsF M path (n.kids.drop 1) 1 0 else slotsF M path (n.kids.drop s) s 0
theorem slots_next {M : List Tre → List Int → Nat → Mea Trm} {path : List Int} {ks : List Tre} {s b : Nat} {d : Tre} (h : ks[s]? = some d) : slotsF M path (ks.drop s) s b = (M d.kids (path ++ [(s : Int)]) b).then_ fun t => (slotsF M path (ks.drop (s + 1)) (s + 1) 0).then_ fun ts => .ok (t :: ts) := by
  obtain ⟨hl, rfl⟩ := List.getElem?_eq_some_iff.1 h
  rw [List.drop_eq_getElem_cons hl, slotsF]
theorem rest_skip {M : List Tre → List Int → Nat → Mea Trm} {n : Tre} {path : List Int} {s : Nat} (h : skipB n s = true) : restF M n path s = restF M n path (s + 1) := by
  have hs : s = 0 := by
    unfold skipB at h
    simp only [Bool.and_eq_true, decide_eq_true_eq] at h
    exact h.2.1
  subst hs
  unfold restF
  rw [if_pos h, if_neg]
  unfold skipB
  simp
theorem rest_go {M : List Tre → List Int → Nat → Mea Trm} {n : Tre} {path : List Int} {s : Nat} {d : Tre} (h : skipB n s = false) (hd : n.kids[s]? = some d) : restF M n path s = (M d.kids (path ++ [(s : Int)]) 0).then_ fun t => (restF M n path (s + 1)).then_ fun ts => .ok (t :: ts) := by
  have h1 : skipB n (s + 1) = false := by unfold skipB; simp
  unfold restF
  rw [if_neg (by rw [h]; simp), if_neg (by rw [h1]; simp), slots_next hd]
theorem rest_end {M : List Tre → List Int → Nat → Mea Trm} {n : Tre} {path : List Int} (h : n.kids ≠ []) : restF M n path n.kids.length = .ok [] := by
  have h1 : skipB n n.kids.length = false := by
    unfold skipB
    rw [decide_eq_false (show ¬ n.kids.length = 0 from fun e => h (List.length_eq_zero_iff.1 e))]
    simp
  unfold restF
  rw [if_neg (by rw [h1]; simp), List.drop_length, slotsF]
theorem opnd_rest {M : List Tre → List Int → Nat → Mea Trm} {n : Tre} {path : List Int} (h2 : n.kind ≠ 2) (h3 : n.kind ≠ 3) (h4 : n.kind ≠ 4) (hk : n.kids ≠ []) : opndF M n path = (restF M n path 0).then_ fun ts => .ok ⟨.mk 4 (shapeN n).1 ⟨#[]⟩ (shapeN n).2 ts, [], ⟨#[]⟩, ⟨#[]⟩⟩ := by
  unfold opndF
  rw [if_neg h2, if_neg h3, if_neg h4]
  congr 1
  unfold restF skipB
  cases hn : n.kids with
  | nil => exact absurd hn hk
  | cons d ks =>
    simp only [List.drop_succ_cons, List.drop_zero]
    by_cases h : n.kind = 6 ∧ d.kids.isEmpty = true
    · rw [if_pos h, if_pos (by rw [decide_eq_true h.1, h.2]; rfl)]
    · rw [if_neg h, if_neg (by
        intro e
        simp only [Bool.and_eq_true, decide_eq_true_eq] at e
        exact h ⟨e.1, e.2.2⟩)]
/-- what is done of a sequence: the rest appended to the terms so far -/
def SoFar (tot : Mea (List Trm)) (xs : List Trm) (rest : Mea (List Trm)) : Prop := tot = rest.then_ fun ts => .ok (xs ++ ts)
theorem SoFar.start (m : Mea (List Trm)) : SoFar m [] m := by
  unfold SoFar
  cases m <;> rfl
theorem SoFar.bad {tot : Mea (List Trm)} {xs : List Trm} {m : Mea Trm} {F : Trm → Mea (List Trm)} {er : Int} {p : List Int} (h : SoFar tot xs (m.then_ F)) (hm : m = .bad er p) : tot = .bad er p := by
  unfold SoFar at h
  rw [h, hm]
  rfl
theorem SoFar.next {tot : Mea (List Trm)} {xs : List Trm} {m : Mea Trm} {r : Mea (List Trm)} {t : Trm} (h : SoFar tot xs (m.then_ fun t => r.then_ fun ts => .ok (t :: ts))) (hm : m = .ok t) : SoFar tot (xs ++ [t]) r := by
  unfold SoFar at *
  rw [h, hm]
  cases r with
  | ok ts => simp [Mea.then_]
  | bad e p => rfl
theorem SoFar.end {tot : Mea (List Trm)} {xs : List Trm} (h : SoFar tot xs (.ok [])) : tot = .ok xs := by
  unfold SoFar at h
  rw [h]
  simp [Mea.then_]
/-- of a well-formed node -/
theorem form_kids {n d : Tre} {s : Nat} (h : formT n = true) (hd : n.kids[s]? = some d) : formT d = true ∧ badPair n.kind d.kind = false := by
  obtain ⟨k, t, c, ks⟩ := n
  rw [formT, Bool.and_eq_true] at h
  have key : ∀ (ks : List Tre) (s : Nat), formL k ks = true → ks[s]? = some d → formT d = true ∧ badPair k d.kind = false := by
    intro ks
    induction ks with
    | nil => intro s _ h; simp at h
    | cons x ks ih =>
      intro s h hs
      rw [formL] at h
      simp only [Bool.and_eq_true, Bool.not_eq_true'] at h
      cases s with
      | zero => obtain rfl : x = d := by simpa using hs
                exact ⟨h.2.1, h.1⟩
      | succ s => exact ih s h.2.2 (by simpa using hs)
  exact key ks s h.2 hd
theorem form_slot {n d : Tre} {s : Nat} (h : formT n = true) (hk : n.kind ≠ 1) (hd : n.kids[s]? = some d) : formL 1 d.kids = true := by
  obtain ⟨h1, h2⟩ := form_kids h hd
  have h3 : d.kind = 1 := by
    unfold badPair at h2
    rw [decide_eq_false hk] at h2
    by_cases e : d.kind = 1
    · exact e
    · rw [decide_eq_false e] at h2; cases h2
  obtain ⟨k, t, c, ks⟩ := d
  rw [formT, Bool.and_eq_true] at h1
  change k = 1 at h3
  rw [h3] at h1
  exact h1.2
theorem form_own {n : Tre} (h : formT n = true) : textB n.kind n.text.data.toList = true ∧ kidsB n.kind n.cols n.kids.length = true := by
  obtain ⟨k, t, c, ks⟩ := n
  rw [formT, Bool.and_eq_true, ownT, Bool.and_eq_true] at h
  exact h.1
theorem symB_len {l : List UInt8} (h : symB l = true) : l.length ≤ 16 := by
  unfold symB at h
  split at h
  · simp
  · simp only [Bool.and_eq_true, decide_eq_true_eq] at h
    exact h.2.1
theorem text_short {k : Int} {l : List UInt8} (h : textB k l = true) : l.length ≤ 1000 := by
  unfold textB at h
  split at h
  · have := symB_len h; omega
  · split at h
    · unfold numP at h
      rw [Bool.and_eq_true, decide_eq_true_eq] at h
      omega
    · split at h
      · rw [Bool.and_eq_true, decide_eq_true_eq] at h
        omega
      · split at h
        · unfold inB at h
          have hm := List.contains_iff_mem.1 h
          have : ∀ a ∈ accentsL, a.length ≤ 1000 := by decide
          exact this _ hm
        · split at h
          · unfold fencB at h
            split at h
            · simp
            · cases h
          · rw [List.isEmpty_iff] at h
            rw [h]; simp
theorem form_text {n : Tre} (h : formT n = true) : n.text.size ≤ 1000 := by
  have := text_short (form_own h).1
  simpa using this
theorem app_size (a b : ByteArray) : (a ++ b).size = a.size + b.size := by simp
theorem shape_size {n : Tre} (h : n.text.size ≤ 1000) (hc : n.kind = 12 → n.cols < 100) : (shapeN n).1.size ≤ 2000 ∧ (shapeN n).2.size ≤ 2000 := by
  have q : divS.size ≤ 2000 ∧ fracS.size ≤ 2000 ∧ sqrtS.size ≤ 2000 ∧ rootS.size ≤ 2000 ∧ indS.size ≤ 2000 ∧ subS.size ≤ 2000 ∧ powS.size ≤ 2000 ∧ supS.size ≤ 2000 ∧ ipowS.size ≤ 2000 ∧ bothS.size ≤ 2000 ∧ accS.size ≤ 2000 ∧ matS.size ≤ 1000 ∧ fenS.size ≤ 1000 ∧ absS.size ≤ 2000 ∧ grpS.size ≤ 2000 := by decide
  obtain ⟨q1, q2, q3, q4, q5, q6, q7, q8, q9, q10, q11, q12, q13, q14, q15⟩ := q
  unfold shapeN
  split
  · exact ⟨q1, q2⟩
  split
  · refine ⟨?_, q4⟩
    dsimp only
    split
    · split
      · exact q3
      · exact q4
    · exact q4
  split
  · exact ⟨q5, q6⟩
  split
  · exact ⟨q7, q8⟩
  split
  · exact ⟨q9, q10⟩
  split
  · exact ⟨by show n.text.size ≤ 2000; omega, q11⟩
  split
  · next h12 =>
    refine ⟨by show matS.size ≤ 2000; omega, ?_⟩
    have h1 : (Lib.decDigits n.cols.toNat).length ≤ 20 := by rw [Lib.decDigits_length]; exact Lib.nDigits_le20 _ (by have := hc h12; omega)
    have h2 : (bys (Lib.decDigits n.cols.toNat)).size ≤ 20 := by simpa [bys, ByteArray.size] using h1
    show (matS ++ bys (Lib.decDigits n.cols.toNat)).size ≤ 2000
    rw [app_size]
    omega
  · refine ⟨?_, ?_⟩
    · show (if n.text.data.toList = [124, 124] then absS else grpS).size ≤ 2000
      split
      · exact q14
      · exact q15
    · show (fenS ++ n.text).size ≤ 2000
      rw [app_size]
      omega
theorem form_cols {n : Tre} (h : formT n = true) (e : n.kind = 12) : 0 ≤ n.cols ∧ n.cols < 100 := by
  have h := (form_own h).2
  unfold kidsB at h
  rw [if_pos e, Bool.and_eq_true, decide_eq_true_eq] at h
  omega
theorem slot_count {n d : Tre} {s : Nat} (hd : n.kids[s]? = some d) : countL d.kids + 2 ≤ countT n := by
  obtain ⟨k, t, c, ks⟩ := n
  obtain ⟨k', t', c', ks'⟩ := d
  rw [countT]
  have key : ∀ (ks : List Tre) (s : Nat), ks[s]? = some (.mk k' t' c' ks') → countL ks' + 1 ≤ countL ks := by
    intro ks
    induction ks with
    | nil => intro s h; simp at h
    | cons x ks ih =>
      intro s hs
      rw [countL]
      cases s with
      | zero =>
        obtain rfl : x = .mk k' t' c' ks' := by simpa using hs
        rw [countT]; omega
      | succ s => have := ih s (by simpa using hs); omega
  have := key ks s hd
  show countL ks' + 2 ≤ _
  omega
end Go.Proofs.YthpioplpfmlgcaaGreatDoor.El
