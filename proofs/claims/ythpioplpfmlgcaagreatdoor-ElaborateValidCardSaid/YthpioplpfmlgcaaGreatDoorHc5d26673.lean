/- awake of the law · Few; Small of the reference; has of the law · A list with one reading, as the reference computes it; positions; further plain laws of meanings · A further rule whose symbol does not occur changes nothing: plain · has of the law: whether a tree contains a symbol · The variables of a meaning are symbols of the tree: plain · Equal of the reference -/
import Derived.Test.YthpioplpfmlgcaaGreatDoorHd8129d3f
import Derived.BigQuiet
import Derived.Deep.DeepCutAuto
import Derived.Deep.CutBlock
import Derived.Test.YthpioplpfmlgcaaGreatDoorHb304910e
import Derived.Test.YthpioplpfmlgcaaGreatDoorH9f6b92c3
import Derived.Test.YthpioplpfmlgcaaGreatDoorH630bd2f2
import Derived.Test.YthpioplpfmlgcaaGreatDoorH09685d45
import Derived.Deep.RegionWith
namespace Go.Proofs.YthpioplpfmlgcaaGreatDoor.El
open Go.Proofs.YthpioplpfmlgcaaGreatDoor.At
open Go.Proofs.YthpioplpfmlgcaaGreatDoor.Ch
open Go.Proofs.YthpioplpfmlgcaaGreatDoor.Sp
open Go.Proofs.YthpioplpfmlgcaaGreatDoor.Sy
open Go.RowKit
def awN : List Tre := [.mk 2 ⟨#[120]⟩ 0 [], .mk 2 ⟨#[43]⟩ 0 [], .mk 3 ⟨#[49]⟩ 0 []]
def awT : Trm := .mk 4 ⟨#[112, 108, 117, 115]⟩ ⟨#[]⟩ ⟨#[105, 110, 102, 105, 120]⟩ [.mk 2 ⟨#[120]⟩ ⟨#[]⟩ ⟨#[]⟩ [], .mk 1 ⟨#[49]⟩ ⟨#[]⟩ ⟨#[]⟩ []]
set_option maxRecDepth 100000 in
theorem awake_tree : treeF [plusR] 6 (rowT awN) = .ok awT := by kernel_rfl
theorem ruls_plus {w : World} {g : Nat} (h : Blk w g 50 plusC) : RulsAt w (some ⟨g, 0, none⟩) [plusR] := fun k r hk => by
  cases k with
  | succ k => simp at hk
  | zero =>
    obtain rfl : plusR = r := by simpa using hk
    refine ⟨⟨by decide, by decide⟩, _, rfl, h.lt, fun j v hj => ?_⟩
    have hc := h.cell j
    match j, hj with
    | 0, hj | 1, hj | 2, hj | 3, hj | 4, hj | 5, hj => exact hc.trans hj
    | j + 6, hj => simp [plusR] at hj
theorem kids_aw {w : World} {g : Nat} (h : Blk w g 25 #[.int .i64 2, .string ⟨#[120]⟩, .int .i64 0, .slice none 0 0, .int .i64 2, .string ⟨#[43]⟩, .int .i64 0, .slice none 0 0, .int .i64 3, .string ⟨#[49]⟩, .int .i64 0, .slice none 0 0]) : KidsAt w (some ⟨g, 0, none⟩) awN := fun i t hi => by
  have leaf : ∀ (k : Int) (s : ByteArray), s.size ≤ 9223372036854775807 → NodAt w (.mk k s 0 []) #[.int .i64 k, .string s, .int .i64 0, .slice none 0 0] := fun k s hs => NodAt.of (ks := []) (A := none) (cap := 0) hs (Nat.le_refl _) (by omega) (fun i t hi => by simp at hi)
  match i, hi with
  | 0, hi =>
    obtain rfl : Tre.mk 2 ⟨#[120]⟩ 0 [] = t := by simpa [awN] using hi
    exact ⟨_, rfl, h.lt, _, leaf 2 _ (by decide), fun j hj => by
      have hc := h.cell j
      match j, hj with
      | 0, _ | 1, _ | 2, _ | 3, _ => exact hc
      | j + 4, hj => omega⟩
  | 1, hi =>
    obtain rfl : Tre.mk 2 ⟨#[43]⟩ 0 [] = t := by simpa [awN] using hi
    exact ⟨_, rfl, h.lt, _, leaf 2 _ (by decide), fun j hj => by
      have hc := h.cell (4 + j)
      match j, hj with
      | 0, _ | 1, _ | 2, _ | 3, _ => exact hc
      | j + 4, hj => omega⟩
  | 2, hi =>
    obtain rfl : Tre.mk 3 ⟨#[49]⟩ 0 [] = t := by simpa [awN] using hi
    exact ⟨_, rfl, h.lt, _, leaf 3 _ (by decide), fun j hj => by
      have hc := h.cell (8 + j)
      match j, hj with
      | 0, _ | 1, _ | 2, _ | 3, _ => exact hc
      | j + 4, hj => omega⟩
  | i + 3, hi => simp [awN] at hi
set_option maxRecDepth 100000 in
set_option maxHeartbeats 8000000 in
theorem awake_any (w : World) : Calls Tryz.prog 10 #[] w fun e w' => e = .returned (.bool true) ∧ Below w.heap.size w w' := by
  go_enter Tryz.func10, Tryz.ntmps10
  go_wp2_with fail
  refine (plus_any w).mono ?_
  rintro e w1 ⟨rfl, rfl⟩
  have HB := Lib.hid (bel_alloc w (.cells plusC 50))
  have K5 := Lib.hid (Blk.new w 50 plusC)
  generalize hn5 : w.heap.size = n5 at K5
  have HN5 := Lib.hid hn5
  clear hn5
  generalize w.alloc (.cells plusC 50) = w1 at *
  go_wp2_with fail
  have hba := bel_alloc w1 (.cells #[.int .i64 2, .string ⟨#[120]⟩, .int .i64 0, .slice none 0 0, .int .i64 2, .string ⟨#[43]⟩, .int .i64 0, .slice none 0 0, .int .i64 3, .string ⟨#[49]⟩, .int .i64 0, .slice none 0 0] 25)
  replace HB := Lib.hid (HB.out.trans (hba.mono HB.out.size))
  replace K5 := Lib.hid (keep hba K5.out)
  have K9 := Lib.hid (Blk.new w1 25 #[.int .i64 2, .string ⟨#[120]⟩, .int .i64 0, .slice none 0 0, .int .i64 2, .string ⟨#[43]⟩, .int .i64 0, .slice none 0 0, .int .i64 3, .string ⟨#[49]⟩, .int .i64 0, .slice none 0 0])
  clear hba
  generalize w1.alloc (.cells #[.int .i64 2, .string ⟨#[120]⟩, .int .i64 0, .slice none 0 0, .int .i64 2, .string ⟨#[43]⟩, .int .i64 0, .slice none 0 0, .int .i64 3, .string ⟨#[49]⟩, .int .i64 0, .slice none 0 0] 25) = w2 at *
  refine (row_any (some ⟨w1.heap.size, 0, none⟩) 3 3 w2).mono ?_
  rintro e w3 ⟨rfl, hb⟩
  replace HB := Lib.hid (HB.out.trans (hb.mono HB.out.size))
  replace K5 := Lib.hid (keep hb K5.out)
  replace K9 := Lib.hid (keep hb K9.out)
  clear hb
  go_wp2_with fail
  refine (tree_any (some ⟨n5, 0, none⟩) 1 [plusR] 6 (rowT awN) _ w3 (ruls_plus K5.out) (Nat.le_refl _) (by decide) (by decide) (NodAt.of (by decide) (Nat.le_refl _) (by decide) (kids_aw K9.out)) (by decide)).mono ?_
  rintro e w4 hm
  rw [awake_tree] at hm
  obtain ⟨⟨c9, rfl, htm⟩, hb⟩ := hm
  obtain ⟨Aa, ca, rfl, -⟩ := htm.form
  replace HB := Lib.hid (HB.out.trans (hb.mono HB.out.size))
  have hba := bel_alloc w4 (.cells zerC 31)
  have HB4 := Lib.hid (HB.out.trans (hba.mono HB.out.size))
  have K1 := Lib.hid (Blk.new w4 31 zerC)
  have HL := Lib.hid HB.out.size
  clear hb hba htm K5 K9
  have k1c := fun i => K1.out.cell i
  have k1f := fun i => K1.out.frozen i
  dsimp only [awT, Trm.kind, Trm.nam, Trm.vr, Trm.args, Trm.form, trmC, List.length_cons, List.length_nil]
  go_wp2_with fail
  exact bodyPost_ret (v := .bool true) (by simp [results, Tryz.results10, go_sem]) rfl ⟨rfl, HB.out.trans ((bel_alloc w4 _).mono HB.out.size)⟩
end Go.Proofs.YthpioplpfmlgcaaGreatDoor.El
namespace Go.Proofs.YthpioplpfmlgcaaGreatDoor.El
open Go.Proofs.YthpioplpfmlgcaaGreatDoor.At
open Go.RowKit
theorem few_any (t : Tre) (c : Array Value) (n : Nat) (w : World) (hN : NodAt w t c) (hn : n ≤ 100000) : Calls Tryz.prog 17 #[.agg c, .int .i64 (n : Nat)] w fun e w' => e = .returned (.bool (decide (countT t ≤ n))) ∧ Below w.heap.size w w' := by
  obtain ⟨k, s, cols, ks⟩ := t
  obtain ⟨A2, cap2, rfl, hs, hl, hc, hk⟩ := hN.form
  dsimp only [Tre.kind, Tre.text, Tre.cols, Tre.kids] at hs hl hc hk ⊢
  have HQ := Lib.hid (few_iff (.mk k s cols ks) n)
  have K0 := Lib.hid (Blk.new w 25 (nodC k s cols A2 ks.length cap2))
  have H0 := Lib.hid (bel_alloc w (.cells (nodC k s cols A2 ks.length cap2) 25))
  have HN := Lib.hid (hN.keep H0.out)
  clear hk hN
  dsimp only [nodC] at K0 H0 HN
  go_enter Tryz.func17, Tryz.ntmps17
  go_wp2_with fail
  generalize w.alloc (.cells #[.int .i64 k, .string s, .int .i64 cols, .slice A2 ks.length cap2] 25) = w1 at *
  refine (left_any (countT (.mk k s cols ks) + 1) _ _ n w1 (by omega) HN.out (by omega) (by omega)).mono ?_
  rintro e w2 ⟨rfl, hb⟩
  have HB := Lib.hid (H0.out.trans (hb.mono H0.out.size))
  clear hb
  generalize leftT (.mk k s cols ks) n = r at *
  by_cases hr : 0 ≤ r
  · have HR := Lib.hid (decide_eq_true (HQ.out.1 hr))
    go_wp2_with fail
    go_ret
    exact ⟨ret_bool HR.out.symm, HB.out⟩
  · have HR := Lib.hid (decide_eq_false (fun h => hr (HQ.out.2 h)))
    go_wp2_with fail
    go_ret
    exact ⟨ret_bool (by rw [HR.out, decide_eq_false (by omega)]), HB.out⟩
end Go.Proofs.YthpioplpfmlgcaaGreatDoor.El
namespace Go.Proofs.YthpioplpfmlgcaaGreatDoor.El
open Go.Proofs.YthpioplpfmlgcaaGreatDoor.At
open Go.Proofs.YthpioplpfmlgcaaGreatDoor.Ch
open Go.Proofs.YthpioplpfmlgcaaGreatDoor.Sp
open Go.Proofs.YthpioplpfmlgcaaGreatDoor.Sy
open Go.RowKit
end Go.Proofs.YthpioplpfmlgcaaGreatDoor.El
namespace Go.Proofs.YthpioplpfmlgcaaGreatDoor.El
open Go.Proofs.YthpioplpfmlgcaaGreatDoor.At
open Go.Proofs.YthpioplpfmlgcaaGreatDoor.Ch
open Go.Proofs.YthpioplpfmlgcaaGreatDoor.Sp
open Go.Proofs.YthpioplpfmlgcaaGreatDoor.Sy
open Go.RowKit
mutual
/-- whether a tree contains a symbol -/
def hasT (s : List UInt8) : Tre → Bool
  | .mk k t _ ks => (decide (k = 2) && decide (t.data.toList = s)) || hasL s ks
def hasL (s : List UInt8) : List Tre → Bool
  | [] => false
  | t :: ts => hasT s t || hasL s ts
end
theorem drop_has {s : List UInt8} {l : List Tre} (h : hasL s l = false) (k : Nat) : hasL s (l.drop k) = false := by
  induction l generalizing k with
  | nil => rw [List.drop_nil]; rfl
  | cons a l ih =>
    cases k with
    | zero => exact h
    | succ k =>
      rw [hasL, Bool.or_eq_false_iff] at h
      rw [List.drop_succ_cons]
      exact ih h.2 k
end Go.Proofs.YthpioplpfmlgcaaGreatDoor.El
namespace Go.Proofs.YthpioplpfmlgcaaGreatDoor.El
open Go.Proofs.YthpioplpfmlgcaaGreatDoor.At
open Go.Proofs.YthpioplpfmlgcaaGreatDoor.Ch
open Go.Proofs.YthpioplpfmlgcaaGreatDoor.Sp
open Go.Proofs.YthpioplpfmlgcaaGreatDoor.Sy
open Go.RowKit
theorem hasL_take {s : List UInt8} {ks : List Tre} {j : Nat} {x : Tre} (h : ks[j]? = some x) (h0 : hasL s (ks.take j) = false) (h1 : hasT s x = false) : hasL s (ks.take (j + 1)) = false := by
  have app : ∀ (a b : List Tre), hasL s (a ++ b) = (hasL s a || hasL s b) := by
    intro a
    induction a with
    | nil => intro b; rw [List.nil_append, hasL, Bool.false_or]
    | cons y a ih => intro b; rw [List.cons_append, hasL, hasL, ih, Bool.or_assoc]
  rw [List.take_add_one, h, Option.toList, app, h0, hasL, hasL, h1]
  rfl
theorem hasT_of {s : List UInt8} {ks : List Tre} {j : Nat} {x : Tre} (h : ks[j]? = some x) (h1 : hasT s x = true) : hasL s ks = true := by
  have key : ∀ (ks : List Tre), x ∈ ks → hasL s ks = true := by
    intro ks
    induction ks with
    | nil => intro h; cases h
    | cons y ks ih =>
      intro h
      rw [hasL, Bool.or_eq_true]
      rcases List.mem_cons.1 h with rfl | h
      · exact .inl h1
      · exact .inr (ih h)
  exact key ks (List.mem_of_getElem? h)
set_option maxRecDepth 100000 in
set_option maxHeartbeats 1600000 in
theorem hast_any : ∀ (m : Nat) (t : Tre) (c : Array Value) (s : ByteArray) (w : World), countT t < m → NodAt w t c → Calls Tryz.prog 19 #[.agg c, .string s] w fun e w' => e = .returned (.bool (hasT s.data.toList t)) ∧ Below w.heap.size w w' := by
  intro m
  induction m with
  | zero => intro t c n w h; omega
  | succ m ih =>
    intro t c s w hm hN
    have IH := Lib.hid ih
    clear ih
    obtain ⟨k, a, cols, ks⟩ := t
    obtain ⟨A2, cap2, rfl, hs, hl, hc, hk⟩ := hN.form
    dsimp only [Tre.kind, Tre.text, Tre.cols, Tre.kids] at hs hl hc hk ⊢
    have HM := Lib.hid hm
    have K0 := Lib.hid (Blk.new w 25 #[.int .i64 k, .string a, .int .i64 cols, .slice A2 ks.length cap2])
    have H0 := Lib.hid (bel_alloc w (.cells #[.int .i64 k, .string a, .int .i64 cols, .slice A2 ks.length cap2] 25))
    have HK := Lib.hid (hk.keep H0.out)
    clear hk hN hm
    go_enter Tryz.func19, Tryz.ntmps19
    go_upto_region 1 with (fail)
    generalize w.alloc (.cells #[.int .i64 k, .string a, .int .i64 cols, .slice A2 ks.length cap2] 25) = w1 at *
    have k0 := K0.out.cell 0
    have k1 := K0.out.cell 1
    have k3 := K0.out.cell 3
    go_cut [14] (fun b wc => b = .bool (decide (k = 2) && decide (a.data.toList = s.data.toList)) ∧ wc = w1)
    case first =>
      by_cases h2 : k = 2
      · have q1 : (k == 2) = true := beq_iff_eq.2 h2
        have HD := Lib.hid (decide_eq_true h2)
        clear h2
        by_cases h3 : a.data.toList = s.data.toList
        · have q2 : (a.toList == s.toList) = true := by rw [ByteArray.toList_eq, ByteArray.toList_eq]; exact beq_iff_eq.2 h3
          have HE := Lib.hid (decide_eq_true h3)
          clear h3
          go_wp2_with fail
          go_meet
          exact ⟨by rw [HD.out, HE.out]; rfl, rfl⟩
        · have q2 : (a.toList == s.toList) = false := by rw [ByteArray.toList_eq, ByteArray.toList_eq]; exact beq_eq_false_iff_ne.2 h3
          have HE := Lib.hid (decide_eq_false h3)
          clear h3
          go_wp2_with fail
          go_meet
          exact ⟨by rw [HD.out, HE.out]; rfl, rfl⟩
      · have q1 : (k == 2) = false := beq_eq_false_iff_ne.2 h2
        have HD := Lib.hid (decide_eq_false h2)
        clear h2
        go_wp2_with fail
        go_meet
        exact ⟨by rw [HD.out]; rfl, rfl⟩
    obtain ⟨rfl, rfl⟩ := hcut
    clear k0 k1 k3
    cases hown : (decide (k = 2) && decide (a.data.toList = s.data.toList)) with
    | true =>
      have HQ := Lib.hid (show hasT s.data.toList (.mk k a cols ks) = true by rw [hasT, hown]; rfl)
      clear hown
      go_wp2_with fail
      go_ret
      exact ⟨ret_bool (by rw [HQ.out]), H0.out⟩
    | false =>
      have HQ := Lib.hid (show hasT s.data.toList (.mk k a cols ks) = hasL s.data.toList ks by rw [hasT, hown]; rfl)
      clear hown
      go_wp2_with fail
      go_loopw [5] (fun i wr => ∃ (j : Nat), j ≤ ks.length ∧ i = .int .i64 j ∧ Hid (hasL s.data.toList (ks.take j) = false) ∧ Hid (Blk wr w.heap.size 25 #[.int .i64 k, .string a, .int .i64 cols, .slice A2 ks.length cap2]) ∧ Hid (KidsAt wr A2 ks) ∧ Hid (Below w.heap.size w wr)) (fun i _ => ks.length - (intOf i).toNat)
      case atStart => exact ⟨0, by omega, rfl, by rw [List.take_zero, hasL]; exact Lib.hid rfl, K0, HK, H0⟩
      case round =>
        clear K0 HK H0
        obtain ⟨j, hj, rfl, HN, K0, HK, H0⟩ := hrel
        have c0 := K0.out.cell 3
        by_cases hlt : j < ks.length
        · obtain ⟨x, hx⟩ : ∃ x, ks[j]? = some x := ⟨_, List.getElem?_eq_getElem hlt⟩
          obtain ⟨ad, A3, cap3, rfl, hadl, hs3, hl3, hc3, hk3, hN3, d0, d1, d2, d3⟩ := HK.out.at_ hx
          have HN3 := Lib.hid hN3
          have HX := Lib.hid hx
          have HCU : Hid (countT x < m) := by
            have h1 := HM.out
            have h2 := count_kid hx
            show _ < _
            rw [countT] at h1
            omega
          clear hx hk3 hN3
          go_wp2_with fail
          refine (IH.out x _ s wr HCU.out HN3.out).mono ?_
          rintro e w2 ⟨rfl, hb⟩
          have K0 := Lib.hid (keep hb K0.out)
          have HK := Lib.hid (HK.out.keep hb)
          have H0 := Lib.hid (H0.out.trans (hb.mono H0.out.size))
          clear hb c0 d0 d1 d2 d3
          cases hq : hasT s.data.toList x with
          | true =>
            have HR := Lib.hid (hasT_of HX.out hq)
            clear hq
            go_wp2_with fail
            go_ret
            exact ⟨ret_bool (by rw [HQ.out, HR.out]), H0.out⟩
          | false =>
            have HR := Lib.hid (hasL_take HX.out HN.out hq)
            clear hq
            go_wp2_with fail
            go_roundw
            case rel => exact ⟨j + 1, by omega, by go_num, HR, K0, HK, H0⟩
            case measure => simp [intOf]; omega
        · obtain rfl : j = ks.length := by omega
          have HR := Lib.hid (show hasL s.data.toList ks = false by have := HN.out; rwa [List.take_length] at this)
          go_wp2_with fail
          go_ret
          exact ⟨ret_bool (by rw [HQ.out, HR.out]), H0.out⟩
end Go.Proofs.YthpioplpfmlgcaaGreatDoor.El
namespace Go.Proofs.YthpioplpfmlgcaaGreatDoor.El
open Go.Proofs.YthpioplpfmlgcaaGreatDoor.At
open Go.Proofs.YthpioplpfmlgcaaGreatDoor.Ch
open Go.Proofs.YthpioplpfmlgcaaGreatDoor.Sp
open Go.Proofs.YthpioplpfmlgcaaGreatDoor.Sy
open Go.RowKit
mutual
/-- the variables of a term, bound ones too -/
def vrsM : Trm → List ByteArray
  | .mk k a v _ ts => (if k = 2 then [a] else if k = 5 then [v] else []) ++ vrsL ts
def vrsL : List Trm → List ByteArray
  | [] => []
  | t :: ts => vrsM t ++ vrsL ts
end
theorem vrsL_app : ∀ (a b : List Trm), vrsL (a ++ b) = vrsL a ++ vrsL b
  | [], b => by rw [vrsL]; rfl
  | t :: a, b => by rw [List.cons_append, vrsL, vrsL, vrsL_app a b, List.append_assoc]
/-- a variable of a part -/
def prtV (p : Prt) (v : ByteArray) : Prop := v ∈ vrsM p.opnd ∨ v ∈ vrsL p.scr ∨ (v = p.vr ∧ p.vr.data.toList ≠ [])
theorem mkOp_vars {nam : ByteArray} {k : Int} {po : Option Prt} {args : List Trm} {v : ByteArray} (h : v ∈ vrsM (mkOp nam k po args)) : (∃ p, po = some p ∧ prtV p v) ∨ v ∈ vrsL args := by
  unfold mkOp at h
  cases po with
  | none =>
    dsimp only at h
    rw [vrsM, if_neg (by decide), if_neg (by decide), List.nil_append] at h
    exact .inr h
  | some p =>
    dsimp only at h
    split at h
    · rw [vrsM, if_neg (by decide), if_neg (by decide), List.nil_append, vrsL_app, List.mem_append] at h
      rcases h with h | h
      · exact .inl ⟨p, rfl, .inr (.inl h)⟩
      · exact .inr h
    · next hne =>
      rw [vrsM, if_neg (by decide), if_pos rfl, vrsL_app, List.mem_append, List.mem_append, List.mem_singleton] at h
      rcases h with h | h | h
      · exact .inl ⟨p, rfl, .inr (.inr ⟨h, hne⟩)⟩
      · exact .inl ⟨p, rfl, .inr (.inl h)⟩
      · exact .inr h
theorem trm_vars {rs : List Rul} {ps : List Prt} {y : Rd} {i j : Nat} (h : OkR rs y i j) : ∀ v, v ∈ vrsM (trmR rs ps y (j : Int)) → ∃ p ∈ ps, prtV p v := by
  have opt : ∀ (c : Prop) [Decidable c] (q : Nat) (p : Prt), (if c then ps[q]? else none) = some p → p ∈ ps := by
    intro c _ q p h
    split at h
    · exact List.mem_of_getElem? h
    · cases h
  induction h with
  | leaf i =>
    intro v hv
    rw [trm_eqn, if_pos (by decide)] at hv
    split at hv
    · next p hp => exact ⟨p, List.mem_of_getElem? hp, .inl hv⟩
    · rw [zerT, vrsM] at hv; simp [vrsL] at hv
  | inf n u i k j y z hu hk h1 h2 hz a b ha hb =>
    intro v hv
    have h3 := op_inf (i := i) (j := j) (y := y) hu hk hz
    rw [trm_eqn, if_neg (show ¬ ((n : Int) < 0) by omega), h3.2] at hv
    rcases mkOp_vars hv with ⟨p, hp, h4⟩ | h4
    · exact ⟨p, opt _ _ p hp, h4⟩
    · simp only [trmL, vrsL, List.append_nil, List.mem_append] at h4
      rcases h4 with h4 | h4
      · exact ha v h4
      · exact hb v h4
  | pre n u i j y hu hk h1 a ha =>
    intro v hv
    have h3 := op_pre (i := i) (j := j) (y := y) hu hk
    rw [trm_eqn, if_neg (show ¬ ((n : Int) < 0) by omega), h3.2] at hv
    rcases mkOp_vars hv with ⟨p, hp, h4⟩ | h4
    · exact ⟨p, opt _ _ p hp, h4⟩
    · simp only [trmL, vrsL, List.append_nil] at h4
      exact ha v h4
  | pos n u i j y hu hk h1 a ha =>
    intro v hv
    have h3 := op_pos (i := i) (j := j) (y := y) hu hk (by omega)
    rw [trm_eqn, if_neg (show ¬ ((n : Int) < 0) by omega), h3.2] at hv
    rcases mkOp_vars hv with ⟨p, hp, h4⟩ | h4
    · exact ⟨p, opt _ _ p hp, h4⟩
    · simp only [trmL, vrsL, List.append_nil] at h4
      exact ha v h4
  | jux n u i k j y z hu hk h1 h2 hz a b ha hb =>
    intro v hv
    have h3 := op_jux (i := i) (j := j) (y := y) hu hk hz
    rw [trm_eqn, if_neg (show ¬ ((n : Int) < 0) by omega), h3.2] at hv
    rcases mkOp_vars hv with ⟨p, hp, h4⟩ | h4
    · exact ⟨p, opt _ _ p hp, h4⟩
    · simp only [trmL, vrsL, List.append_nil, List.mem_append] at h4
      rcases h4 with h4 | h4
      · exact ha v h4
      · exact hb v h4
theorem hasL_of {s : List UInt8} : ∀ {ts : List Tre} {t : Tre}, t ∈ ts → hasT s t = true → hasL s ts = true
  | [], t, h, _ => by cases h
  | x :: ts, t, h, ht => by
    rw [hasL, Bool.or_eq_true]
    rcases List.mem_cons.1 h with rfl | h
    · exact .inl ht
    · exact .inr (hasL_of h ht)
theorem hasT_kids {s : List UInt8} {t : Tre} (h : hasL s t.kids = true) : hasT s t = true := by
  obtain ⟨k, a, c, ks⟩ := t
  rw [hasT, Bool.or_eq_true]
  exact .inr h
theorem hasT_sym {t : Tre} (h : t.kind = 2) : hasT t.text.data.toList t = true := by
  obtain ⟨k, a, c, ks⟩ := t
  rw [hasT, Bool.or_eq_true, Bool.and_eq_true, decide_eq_true_eq, decide_eq_true_eq]
  exact .inl ⟨h, rfl⟩
theorem slots_vars {M : List Tre → List Int → Nat → Mea Trm} {path : List Int} (hM : ∀ items p k t, M items p k = .ok t → ∀ v ∈ vrsM t, hasL v.data.toList items = true) : ∀ (ks : List Tre) (s b : Nat) (ts : List Trm), slotsF M path ks s b = .ok ts → ∀ v ∈ vrsL ts, hasL v.data.toList ks = true
  | [], _, _, ts, h, v, hv => by
    rw [slotsF] at h
    injection h with h
    subst h
    rw [vrsL] at hv
    cases hv
  | n :: ns, s, b, ts, h, v, hv => by
    rw [slotsF] at h
    cases h1 : M n.kids (path ++ [(s : Int)]) b with
    | bad e p => rw [h1] at h; cases h
    | ok t =>
      rw [h1] at h
      simp only [Mea.then_] at h
      cases h2 : slotsF M path ns (s + 1) 0 with
      | bad e p => rw [h2] at h; cases h
      | ok us =>
        rw [h2] at h
        simp only at h
        injection h with h
        subst h
        rw [vrsL, List.mem_append] at hv
        rw [hasL, Bool.or_eq_true]
        rcases hv with hv | hv
        · exact .inl (hasT_kids (hM _ _ _ _ h1 v hv))
        · exact .inr (slots_vars hM ns _ _ us h2 v hv)
theorem opnd_vars {M : List Tre → List Int → Nat → Mea Trm} {path : List Int} (hM : ∀ items p k t, M items p k = .ok t → ∀ v ∈ vrsM t, hasL v.data.toList items = true) {n : Tre} {p : Prt} (h : opndF M n path = .ok p) : ∀ v, prtV p v → hasT v.data.toList n = true := by
  have no : ∀ (t : Trm) (v : ByteArray), prtV ⟨t, [], ⟨#[]⟩, ⟨#[]⟩⟩ v → v ∈ vrsM t := by
    rintro t v (h | h | ⟨_, h⟩)
    · exact h
    · rw [vrsL] at h; cases h
    · exact absurd rfl h
  intro v hv
  unfold opndF at h
  split at h
  · next h2 =>
    injection h with h
    subst h
    have := no _ v hv
    rw [vrsM, if_pos rfl, vrsL, List.append_nil, List.mem_singleton] at this
    rw [this]
    exact hasT_sym h2
  · split at h
    · injection h with h
      subst h
      have := no _ v hv
      simp [vrsM, vrsL] at this
    · split at h
      · injection h with h
        subst h
        have := no _ v hv
        simp [vrsM, vrsL] at this
      · have key : ∀ m : Mea (List Trm), (∀ ts, m = .ok ts → ∀ v ∈ vrsL ts, hasL v.data.toList n.kids = true) → (m.then_ fun ts => Mea.ok ⟨Trm.mk 4 (shapeN n).1 ⟨#[]⟩ (shapeN n).2 ts, [], ⟨#[]⟩, ⟨#[]⟩⟩) = .ok p → hasT v.data.toList n = true := by
          intro m hm h
          cases hq : m with
          | bad e q => rw [hq] at h; cases h
          | ok ts =>
            rw [hq] at h
            simp only [Mea.then_] at h
            injection h with h
            subst h
            have := no _ v hv
            rw [vrsM, if_neg (by decide), if_neg (by decide), List.nil_append] at this
            exact hasT_kids (hm ts hq v this)
        refine key _ (fun ts hts v hv => ?_) h
        cases hk : n.kids with
        | nil =>
          rw [hk] at hts
          dsimp only at hts
          injection hts with hts
          subst hts
          rw [vrsL] at hv
          cases hv
        | cons d ks =>
          rw [hk] at hts
          dsimp only at hts
          split at hts
          · have := slots_vars hM ks 1 0 ts hts v hv
            rw [hasL, Bool.or_eq_true]
            exact .inr this
          · exact slots_vars hM (d :: ks) 0 0 ts hts v hv
theorem bind_vars {rs : List Rul} {n : Tre} {v : ByteArray} (h : bindN rs n = some v) : hasT v.data.toList n = true := by
  unfold bindN at h
  split at h
  · next a b c r hk =>
    split at h
    · next hc =>
      injection h with h
      subst h
      exact hasT_kids (hasL_of (t := a) (by rw [hk]; exact List.mem_cons_self) (hasT_sym hc.1.1))
    · cases h
  · cases h
theorem var_vars {rs : List Rul} {n : Tre} {p : Bool} {v : ByteArray} (h : varN rs n p = some v) : hasT v.data.toList n = true := by
  unfold varN at h
  split at h
  · split at h
    · next b sub r hk => exact hasT_kids (hasL_of (t := sub) (by rw [hk]; exact List.mem_cons_of_mem _ List.mem_cons_self) (bind_vars h))
    · cases h
  · cases h
theorem scr_vars {rs : List Rul} {M : List Tre → List Int → Nat → Mea Trm} {path : List Int} (hM : ∀ items p k t, M items p k = .ok t → ∀ v ∈ vrsM t, hasL v.data.toList items = true) {n : Tre} {pre : Bool} {p : Prt} (h : scrF rs M n path pre = .ok p) : ∀ v, prtV p v → hasT v.data.toList n = true := by
  have nz : ∀ v, v ∉ vrsM zerT := by intro v hv; simp [zerT, vrsM, vrsL] at hv
  intro v hv
  unfold scrF at h
  split at h
  · injection h with h
    subst h
    rcases hv with h | h | ⟨_, h⟩
    · exact absurd h (nz v)
    · simp [zerP, vrsL] at h
    · exact absurd rfl h
  · cases hs : slotsF M path n.kids.tail 1 (if (varN rs n pre).isSome then 2 else 0) with
    | bad e q => rw [hs] at h; cases h
    | ok ts =>
      rw [hs] at h
      simp only [Mea.then_] at h
      injection h with h
      subst h
      rcases hv with h | h | ⟨h1, h2⟩
      · exact absurd h (nz v)
      · have := slots_vars hM _ _ _ ts hs v h
        refine hasT_kids ?_
        cases hk : n.kids with
        | nil => rw [hk] at this; exact this
        | cons d ks =>
          rw [hk] at this
          rw [hasL, Bool.or_eq_true]
          exact .inr this
      · dsimp only at h1 h2
        cases hq : varN rs n pre with
        | none => rw [hq] at h2; exact absurd rfl h2
        | some u =>
          rw [hq, Option.getD_some] at h1
          rw [h1]
          exact var_vars hq
theorem partsF_vars {rs : List Rul} {M : List Tre → List Int → Nat → Mea Trm} {path : List Int} {kd : Nat → Int} {k : Nat} (hM : ∀ items p k t, M items p k = .ok t → ∀ v ∈ vrsM t, hasL v.data.toList items = true) : ∀ (ns : List Tre) (ts : List ByteArray) (i : Nat) (ps : List Prt), partsF rs M path kd k ns ts i = .ok ps → ∀ p ∈ ps, ∀ v, prtV p v → hasL v.data.toList ns = true
  | [], ts, i, ps, h, p, hp, v, _ => by
    have : (Mea.ok [] : Mea (List Prt)) = .ok ps := by rw [← h]; cases ts <;> simp [partsF]
    injection this with this
    subst this
    cases hp
  | n :: ns, [], i, ps, h, p, hp, v, _ => by
    have : (Mea.ok [] : Mea (List Prt)) = .ok ps := by rw [← h]; simp [partsF]
    injection this with this
    subst this
    cases hp
  | n :: ns, t :: ts, i, ps, h, p, hp, v, hv => by
    rw [partsF] at h
    cases h1 : (if t.data.toList = [35] then opndF M n (path ++ [((k + i : Nat) : Int)]) else scrF rs M n (path ++ [((k + i : Nat) : Int)]) (decide (kd i = 2))) with
    | bad e q => rw [h1] at h; cases h
    | ok x =>
      rw [h1] at h
      simp only [Mea.then_] at h
      cases h2 : partsF rs M path kd k ns ts (i + 1) with
      | bad e q => rw [h2] at h; cases h
      | ok us =>
        rw [h2] at h
        simp only at h
        injection h with h
        subst h
        rw [hasL, Bool.or_eq_true]
        rcases List.mem_cons.1 hp with rfl | hp
        · left
          split at h1
          · exact opnd_vars hM h1 v hv
          · exact scr_vars hM h1 v hv
        · exact .inr (partsF_vars hM ns ts (i + 1) us h2 p hp v hv)
theorem drop_has' {s : List UInt8} {l : List Tre} {k : Nat} (h : hasL s (l.drop k) = true) : hasL s l = true := by
  cases hl : hasL s l with
  | true => rfl
  | false => rw [drop_has hl k] at h; cases h
/-- THE LAW -/
theorem list_vars (rs : List Rul) : ∀ (f : Nat) (items : List Tre) (path : List Int) (k : Nat) (t : Trm), listM rs f items path k = .ok t → ∀ v ∈ vrsM t, hasL v.data.toList items = true
  | 0, _, _, _, t, h, v, _ => by rw [listM] at h; cases h
  | f + 1, items, path, k, t, h, v, hv => by
    rw [listM] at h
    unfold listF at h
    split at h
    · cases h
    · split at h
      · cases h
      · next ts hts =>
        split at h
        · cases h
        · next x hx =>
          have hmem : x ∈ allR rs ts 0 ts.length := by
            unfold readsM at hx
            split at hx
            · rw [hx]; exact List.mem_cons_self
            · cases hx
          cases hp : partsF rs (listM rs f) path (fun i => kndR rs ((ruleA (asgR rs x ts.length) ts.length).getD i 0)) k (items.drop k) ts 0 with
          | bad e q => rw [hp] at h; cases h
          | ok ps =>
            rw [hp] at h
            simp only [Mea.then_] at h
            injection h with h
            subst h
            obtain ⟨p, h1, h2⟩ := trm_vars (ok_of_mem _ 0 ts.length x (Nat.le_refl _) hmem) v hv
            exact drop_has' (partsF_vars (list_vars rs f) _ _ _ ps hp p h1 v h2)
        · cases h
end Go.Proofs.YthpioplpfmlgcaaGreatDoor.El
namespace Go.Proofs.YthpioplpfmlgcaaGreatDoor.Sp
open Go.Proofs.YthpioplpfmlgcaaGreatDoor.At
open Go.RowKit
mutual
def eqM : Trm → Trm → Bool
  | .mk k a v f ts, u => (k == u.kind && (a.toList == u.nam.toList && (v.toList == u.vr.toList && (f.toList == u.form.toList && decide (ts.length = u.args.length))))) && eqL ts u.args
def eqL : List Trm → List Trm → Bool
  | [], us => us.isEmpty
  | t :: ts, us => match us with
    | [] => false
    | u :: us => eqM t u && eqL ts us
end
theorem bytes_eq {a b : ByteArray} (h : (a.toList == b.toList) = true) : a = b := by
  rw [beq_iff_eq, ByteArray.toList_eq, ByteArray.toList_eq] at h
  apply ByteArray.ext
  exact Array.toList_inj.1 h
mutual
theorem eqM_iff : ∀ t u : Trm, eqM t u = true ↔ t = u
  | .mk k a v f ts, .mk k' a' v' f' us => by
    unfold eqM
    simp only [Trm.kind, Trm.nam, Trm.vr, Trm.form, Trm.args, Bool.and_eq_true, beq_iff_eq]
    constructor
    · rintro ⟨⟨rfl, h1, h2, h3, h4⟩, h5⟩
      rw [bytes_eq (beq_iff_eq.2 h1), bytes_eq (beq_iff_eq.2 h2), bytes_eq (beq_iff_eq.2 h3), (eqL_iff ts us).1 h5]
    · intro e
      injection e with e1 e2 e3 e4 e5
      subst e1; subst e2; subst e3; subst e4; subst e5
      exact ⟨⟨rfl, rfl, rfl, rfl, decide_eq_true rfl⟩, (eqL_iff ts ts).2 rfl⟩
theorem eqL_iff : ∀ ts us : List Trm, eqL ts us = true ↔ ts = us
  | [], us => by unfold eqL; rw [List.isEmpty_iff]; exact eq_comm
  | t :: ts, [] => by unfold eqL; simp
  | t :: ts, u :: us => by
    unfold eqL
    simp only [Bool.and_eq_true]
    rw [eqM_iff t u, eqL_iff ts us, List.cons.injEq]
end
theorem eqL_snoc {ts us : List Trm} {j : Nat} {x y : Trm} (h1 : ts[j]? = some x) (h2 : us[j]? = some y) : eqL (ts.take (j + 1)) (us.take (j + 1)) = (eqL (ts.take j) (us.take j) && eqM x y) := by
  rw [Bool.eq_iff_iff, Bool.and_eq_true, eqL_iff, eqL_iff, eqM_iff, List.take_add_one, List.take_add_one, h1, h2]
  have l1 : j < ts.length := (List.getElem?_eq_some_iff.1 h1).1
  have l2 : j < us.length := (List.getElem?_eq_some_iff.1 h2).1
  constructor
  · intro e
    have := List.append_inj e (by simp; omega)
    exact ⟨this.1, by simpa using this.2⟩
  · rintro ⟨e, rfl⟩
    rw [e]
theorem eqL_false {ts us : List Trm} {j : Nat} (h : eqL (ts.take j) (us.take j) = false) : eqL ts us = false := by
  cases hq : eqL ts us
  · rfl
  · rw [(eqL_iff ts us).1 hq] at h
    rw [(eqL_iff _ _).2 rfl] at h
    cases h
set_option maxRecDepth 100000 in
set_option maxHeartbeats 4000000 in
theorem requal_any : ∀ (z : Nat) (t u : Trm) (c d : Array Value) (w : World), cntM t ≤ z → MAt w t c → MAt w u d → Calls Tryz.prog 16 #[.agg c, .agg d] w fun e w' => e = .returned (.bool (eqM t u)) ∧ Below w.heap.size w w' := by
  intro z
  induction z with
  | zero => intro t u c d w h; have := cnt_pos t; omega
  | succ z ih =>
    intro t u c d w hz hM hM2
    have IH := Lib.hid ih
    clear ih
    obtain ⟨A, cap, rfl, ha, hv, hf, hl, hc, hk⟩ := hM.form
    obtain ⟨A', cap', rfl, ha', hv', hf', hl', hc', hk'⟩ := hM2.form
    obtain ⟨k, a, v, f, ts⟩ := t
    obtain ⟨k', a', v', f', us⟩ := u
    dsimp only [Trm.kind, Trm.nam, Trm.vr, Trm.form, Trm.args] at ha hv hf hl hk ha' hv' hf' hl' hk' ⊢
    have HQ := Lib.hid (show eqM (.mk k a v f ts) (.mk k' a' v' f' us) = ((k == k' && (a.toList == a'.toList && (v.toList == v'.toList && (f.toList == f'.toList && decide (ts.length = us.length))))) && eqL ts us) by unfold eqM; rfl)
    have HZ := Lib.hid (show cntL ts ≤ z by rw [cntM] at hz; omega)
    have HW := Lib.hid (show (w.alloc (.cells (trmC k a v A ts.length cap f) 31)).heap.size = w.heap.size + 1 by simp)
    have B1 := bel_alloc w (.cells (trmC k a v A ts.length cap f) 31)
    have B2 := bel_alloc (w.alloc (.cells (trmC k a v A ts.length cap f) 31)) (.cells (trmC k' a' v' A' us.length cap' f') 31)
    have HB := Lib.hid (B1.trans (B2.mono B1.size))
    have HK := Lib.hid (hk.keep HB.out)
    have HK' := Lib.hid (hk'.keep HB.out)
    have K0 := Lib.hid (keep B2 (Blk.new w 31 (trmC k a v A ts.length cap f)))
    have K1 : Hid (Blk ((w.alloc (.cells (trmC k a v A ts.length cap f) 31)).alloc (.cells (trmC k' a' v' A' us.length cap' f') 31)) (w.heap.size + 1) 31 (trmC k' a' v' A' us.length cap' f')) := by
      show Blk _ _ _ _
      rw [← HW.out]
      exact Blk.new _ _ _
    clear hM hM2 hk hk' B1 B2 HW hz
    dsimp only [trmC] at HB HK HK' K0 K1
    have c0 := K0.out.cell 0
    have c1 := K0.out.cell 1
    have c2 := K0.out.cell 2
    have c3 := K0.out.cell 3
    have c4 := K0.out.cell 4
    have e0 := K1.out.cell 0
    have e1 := K1.out.cell 1
    have e2 := K1.out.cell 2
    have e3 := K1.out.cell 3
    have e4 := K1.out.cell 4
    go_enter Tryz.func16, Tryz.ntmps16
    cases q0 : (k == k')
    · rw [q0] at HQ
      have n0 : (k != k') = true := by rw [bne, q0]; rfl
      go_wp2_with fail
      go_ret
      exact ⟨ret_bool (by rw [HQ.out]; rfl), HB.out⟩
    have n0 : (k != k') = false := by rw [bne, q0]; rfl
    rw [q0, Bool.true_and] at HQ
    replace q0 := Lib.hid q0
    cases q1 : (a.toList == a'.toList)
    · rw [q1] at HQ
      have n1 : (!(a.toList == a'.toList)) = true := by rw [q1]; rfl
      go_wp2_with fail
      go_ret
      exact ⟨ret_bool (by rw [HQ.out]; rfl), HB.out⟩
    have n1 : (!(a.toList == a'.toList)) = false := by rw [q1]; rfl
    rw [q1, Bool.true_and] at HQ
    replace q1 := Lib.hid q1
    cases q2 : (v.toList == v'.toList)
    · rw [q2] at HQ
      have n2 : (!(v.toList == v'.toList)) = true := by rw [q2]; rfl
      go_wp2_with fail
      go_ret
      exact ⟨ret_bool (by rw [HQ.out]; rfl), HB.out⟩
    have n2 : (!(v.toList == v'.toList)) = false := by rw [q2]; rfl
    rw [q2, Bool.true_and] at HQ
    replace q2 := Lib.hid q2
    cases q4 : (f.toList == f'.toList)
    · rw [q4] at HQ
      have n4 : (!(f.toList == f'.toList)) = true := by rw [q4]; rfl
      go_wp2_with fail
      go_ret
      exact ⟨ret_bool (by rw [HQ.out]; rfl), HB.out⟩
    have n4 : (!(f.toList == f'.toList)) = false := by rw [q4]; rfl
    rw [q4, Bool.true_and] at HQ
    replace q4 := Lib.hid q4
    by_cases hn : ts.length ≠ us.length
    · have n3 : ((ts.length : Int) != (us.length : Int)) = true := by rw [bne_iff_ne]; omega
      rw [decide_eq_false hn] at HQ
      clear hn
      go_wp2_with fail
      go_ret
      exact ⟨ret_bool (by rw [HQ.out]; rfl), HB.out⟩
    have n3 : ((ts.length : Int) != (us.length : Int)) = false := by rw [bne_eq_false_iff_eq]; omega
    replace hn : ts.length = us.length := Classical.not_not.1 hn
    rw [decide_eq_true hn, Bool.true_and] at HQ
    replace hn := Lib.hid hn
    go_wp2_with fail
    clear c0 c1 c2 c3 c4 e0 e1 e2 e3 e4
    generalize (w.alloc (.cells #[.int .i64 k, .string a, .string v, .slice A ts.length cap, .string f] 31)).alloc (.cells #[.int .i64 k', .string a', .string v', .slice A' us.length cap', .string f'] 31) = w1 at *
    go_loopw [5] (fun i wr => ∃ j : Nat, j ≤ ts.length ∧ i = .int .i64 j ∧ Hid (eqL (ts.take j) (us.take j) = true) ∧ Hid (Blk wr w.heap.size 31 #[.int .i64 k, .string a, .string v, .slice A ts.length cap, .string f]) ∧ Hid (Blk wr (w.heap.size + 1) 31 #[.int .i64 k', .string a', .string v', .slice A' us.length cap', .string f']) ∧ Hid (ArgsAt wr A ts) ∧ Hid (ArgsAt wr A' us) ∧ Hid (Below w.heap.size w wr)) (fun i _ => ts.length - (intOf i).toNat)
    case atStart => exact ⟨0, by omega, rfl, rfl, K0, K1, HK, HK', HB⟩
    case round =>
      clear K0 K1 HK HK' HB
      obtain ⟨j, hj, rfl, HJ, K0, K1, HK, HK', HB⟩ := hrel
      have c3 := K0.out.cell 3
      have e3 := K1.out.cell 3
      by_cases hlt : j < ts.length
      · obtain ⟨x, hx⟩ : ∃ x, ts[j]? = some x := ⟨_, List.getElem?_eq_getElem hlt⟩
        obtain ⟨y, hy⟩ : ∃ y, us[j]? = some y := ⟨_, List.getElem?_eq_getElem (by have := hn.out; omega)⟩
        obtain ⟨ad, A2, cap2, rfl, hadl, hp⟩ := HK.out.at_ hx
        obtain ⟨ad', A3, cap3, rfl, hadl', hp'⟩ := HK'.out.at_ hy
        have HX := Lib.hid hp.whole
        have HY := Lib.hid hp'.whole
        obtain ⟨hb1, d0, d1, d2, d3, d4, -⟩ := hp
        obtain ⟨hb2, g0, g1, g2, g3, g4, -⟩ := hp'
        have HS := Lib.hid (show cntM x ≤ z by have := cnt_arg hx; have := HZ.out; omega)
        have HSN := Lib.hid (eqL_snoc hx hy)
        rw [HJ.out, Bool.true_and] at HSN
        have HFA := Lib.hid (fun h => eqL_false (ts := ts) (us := us) (j := j + 1) h)
        have hlu : (j : Int) < (us.length : Int) := by have := hn.out; omega
        clear hx hy
        go_wp2_with fail
        go_upto_region 6 with (fail)
        refine wp_region_ext (by kernel_rfl) (by kernel_rfl) ?_
        have EC := fun e : Ext wr => (keep e.bel K0.out).cell 3
        have EE := fun e : Ext wr => (keep e.bel K1.out).cell 3
        have D0 := fun e : Ext wr => e.cell hb1 d0
        have D1 := fun e : Ext wr => e.cell (p := ⟨(ad.add (j * 5)).block, (ad.add (j * 5)).off + 1, none⟩) hb1 d1
        have D2 := fun e : Ext wr => e.cell (p := ⟨(ad.add (j * 5)).block, (ad.add (j * 5)).off + 2, none⟩) hb1 d2
        have D3 := fun e : Ext wr => e.cell (p := ⟨(ad.add (j * 5)).block, (ad.add (j * 5)).off + 3, none⟩) hb1 d3
        have D4 := fun e : Ext wr => e.cell (p := ⟨(ad.add (j * 5)).block, (ad.add (j * 5)).off + 4, none⟩) hb1 d4
        have G0 := fun e : Ext wr => e.cell hb2 g0
        have G1 := fun e : Ext wr => e.cell (p := ⟨(ad'.add (j * 5)).block, (ad'.add (j * 5)).off + 1, none⟩) hb2 g1
        have G2 := fun e : Ext wr => e.cell (p := ⟨(ad'.add (j * 5)).block, (ad'.add (j * 5)).off + 2, none⟩) hb2 g2
        have G3 := fun e : Ext wr => e.cell (p := ⟨(ad'.add (j * 5)).block, (ad'.add (j * 5)).off + 3, none⟩) hb2 g3
        have G4 := fun e : Ext wr => e.cell (p := ⟨(ad'.add (j * 5)).block, (ad'.add (j * 5)).off + 4, none⟩) hb2 g4
        have HC := Lib.hid (fun e : Ext wr => Calls.ext (IH.out x y _ _ e.val HS.out (HX.out.keep e.bel) (HY.out.keep e.bel)))
        clear c3 e3 d0 d1 d2 d3 d4 g0 g1 g2 g3 g4
        repeat (go_big_quiet_step (fail))
        go_big_quiet_step ((rename_i e; exact HC.out e))
        repeat (go_big_quiet_step (fail))
        refine wpQuiet_nil ?_
        intro wq hwq
        obtain ⟨⟨w9, hb⟩, e9⟩ := hwq
        dsimp only at e9
        subst e9
        replace K0 := Lib.hid (keep hb K0.out)
        replace K1 := Lib.hid (keep hb K1.out)
        replace HK := Lib.hid (HK.out.keep hb)
        replace HK' := Lib.hid (HK'.out.keep hb)
        replace HB := Lib.hid (HB.out.trans (hb.mono HB.out.size))
        clear EC EE D0 D1 D2 D3 D4 G0 G1 G2 G3 G4 HC hb hb1 hb2 HX HY
        cases hr : eqM x y
        · have hq : eqL ts us = false := HFA.out (by rw [HSN.out, hr])
          rw [hq] at HQ
          clear hr hq
          go_wp2_with fail
          go_ret
          exact ⟨ret_bool (by rw [HQ.out]), HB.out⟩
        · rw [hr] at HSN
          clear hr
          go_wp2_with fail
          go_roundw
          case rel => exact ⟨j + 1, by omega, by go_num, HSN, K0, K1, HK, HK', HB⟩
          case measure => simp [intOf]; omega
      · obtain rfl : j = ts.length := by omega
        have hq : eqL ts us = true := by
          have h := HJ.out
          rw [List.take_length, hn.out, List.take_length] at h
          exact h
        rw [hq] at HQ
        clear hq
        go_wp2_with fail
        go_ret
        exact ⟨ret_bool (by rw [HQ.out]), HB.out⟩
end Go.Proofs.YthpioplpfmlgcaaGreatDoor.Sp
