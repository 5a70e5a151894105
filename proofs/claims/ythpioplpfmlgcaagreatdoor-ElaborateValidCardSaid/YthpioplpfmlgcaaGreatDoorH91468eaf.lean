/- list: the meaning of the items of a row. -/
import Derived.Test.YthpioplpfmlgcaaGreatDoorH0c3a5f26
import Derived.Test.YthpioplpfmlgcaaGreatDoorH10702011
import Derived.Test.YthpioplpfmlgcaaGreatDoorH630bd2f2
import Derived.Test.YthpioplpfmlgcaaGreatDoorH09685d45
import Derived.BigQuiet
import Derived.Deep.DeepCutAuto
import Derived.Deep.CutBlock
namespace Go.Proofs.YthpioplpfmlgcaaGreatDoor.El
open Go.Proofs.YthpioplpfmlgcaaGreatDoor.At
open Go.Proofs.YthpioplpfmlgcaaGreatDoor.Ch
open Go.Proofs.YthpioplpfmlgcaaGreatDoor.Sp
open Go.Proofs.YthpioplpfmlgcaaGreatDoor.Sy
open Go.RowKit
theorem info_prt : (Tryz.prog.info? 113).map (fun i => (i.zero, i.size, i.bytes)) = some (some (.agg zerPC), 8, 136) := by kernel_rfl
/-- the boxes of list behind the reading; ps: the parts so far, the rest zero -/
structure LiS (w w3 : World) (gr gp : Nat) (RA : List Int) (ps : List Prt) (x : World) : Prop where
  b3 : Below w3.heap.size w3 x
  k0 : Blk x w.heap.size 31 zerC
  rl : rulesB x gr RA
  pa : PArr (fun b => gp < b) x gp ps
  l3 : w3.heap.size ≤ gr
  lp : gr < gp
theorem LiS.keep {w w3 x x' : World} {gr gp : Nat} {RA : List Int} {ps : List Prt} (h : LiS w w3 gr gp RA ps x) (hb : Below x.heap.size x x') : LiS w w3 gr gp RA ps x' :=
  ⟨h.b3.trans (hb.mono h.b3.size), _root_.Go.Proofs.YthpioplpfmlgcaaGreatDoor.keep hb h.k0, _root_.Go.Proofs.YthpioplpfmlgcaaGreatDoor.keep hb h.rl, h.pa.keep hb, h.l3, h.lp⟩
theorem count_mem : ∀ {ts : List Tre} {i : Nat} {n : Tre}, ts[i]? = some n → countT n ≤ countL ts
  | [], i, n, h => by simp at h
  | t :: ts, 0, n, h => by
    obtain rfl : t = n := by simpa using h
    rw [countL]; omega
  | t :: ts, i + 1, n, h => by
    have := count_mem (ts := ts) (i := i) (n := n) (by simpa using h)
    rw [countL]; omega
theorem PArr.cells {ok : Nat → Prop} {w : World} {gp : Nat} {ps : List Prt} (h : PArr ok w gp ps) {q : Nat} (hq : q < ps.length) : ∃ u : Nat → Value, ∀ j, j < 8 → w.cell? ⟨gp, q * 8 + j, none⟩ = some (u j) ∧ w.frozen? ⟨gp, q * 8 + j, none⟩ = false := by
  obtain ⟨cs, h1, h2, h3⟩ := h
  refine ⟨fun j => cs.getD (q * 8 + j) undef, fun j hj => ⟨?_, h1.frozen _⟩⟩
  rw [h1.cell]
  show cs[q * 8 + j]? = some (cs.getD (q * 8 + j) undef)
  rw [Array.getD_eq_getD_getElem?, Array.getElem?_eq_getElem (by omega)]
  rfl
theorem opnd_form {M : List Tre → List Int → Nat → Mea Trm} {n : Tre} {path : List Int} {p : Prt} (h : opndF M n path = .ok p) : p = ⟨p.opnd, [], ⟨#[]⟩, ⟨#[]⟩⟩ := by
  unfold opndF at h
  split at h
  · injection h with h; rw [← h]
  · split at h
    · injection h with h; rw [← h]
    · split at h
      · injection h with h; rw [← h]
      · unfold Mea.then_ at h
        split at h
        · injection h with h; rw [← h]
        · cases h
theorem ruleA_len (ws : List (Int × Int)) (n : Nat) : (ruleA ws n).length = n := by
  unfold ruleA
  rw [show ∀ l : List Int, ws.foldl (fun l p => l.set p.1.toNat p.2) l = setsL l ws from fun _ => rfl, setsL_len, List.length_replicate]
/-- what a call of scripts has come to -/
def PRes (lo : Nat) (m : Mea Prt) (w : World) (c f : Value) : Prop := match m with
  | .ok p => ∃ cc, c = .agg cc ∧ f = .pointer none ∧ PrtAt (fun b => lo ≤ b) w p cc
  | .bad er p => c = .agg zerPC ∧ ∃ g, f = .pointer (some ⟨g, 0, none⟩) ∧ FailAt (fun b => lo ≤ b) w g er p
theorem PRes.keep {lo : Nat} {m : Mea Prt} {w w' : World} {c f : Value} (h : PRes lo m w c f) (hb : Below w.heap.size w w') : PRes lo m w' c f := by
  cases m with
  | ok t => obtain ⟨cc, h1, h2, h3⟩ := h; exact ⟨cc, h1, h2, h3.keep hb⟩
  | bad er p => obtain ⟨h1, g, h2, h3⟩ := h; exact ⟨h1, g, h2, h3.keep hb⟩
theorem PrtP.res {m : Mea Prt} {w : World} {e : Ending} {w' : World} {lo : Nat} (h : PrtP m w e w') (hlo : lo ≤ w.heap.size) : ∃ c f, e = .returned (.tuple #[c, f]) ∧ PRes lo m w' c f ∧ Below w.heap.size w w' := by
  obtain ⟨h1, hb⟩ := h
  cases m with
  | ok p =>
    obtain ⟨c, rfl, hp⟩ := h1
    exact ⟨_, _, rfl, ⟨c, rfl, rfl, hp.any fun b _ h => Nat.le_trans hlo h⟩, hb⟩
  | bad er q =>
    obtain ⟨g, rfl, hf⟩ := h1
    exact ⟨_, _, rfl, ⟨rfl, g, rfl, hf.any fun b _ h => Nat.le_trans hlo h⟩, hb⟩
theorem toksN_lt {rs : List Rul} : ∀ {l : List Tre} {i : Nat}, toksN rs l = .inr i → i < l.length
  | [], i, h => by simp [toksN] at h
  | x :: l, i, h => by
    simp only [toksN] at h
    rw [List.length_cons]
    cases ht : tokN rs x with
    | none => rw [ht] at h; simp only [Sum.inr.injEq] at h; omega
    | some t =>
      rw [ht] at h
      dsimp only at h
      cases hl : toksN rs l with
      | inl us => rw [hl] at h; cases h
      | inr j =>
        rw [hl] at h
        simp only [Sum.inr.injEq] at h
        have := toksN_lt hl
        omega
theorem formL_mem {k : Int} : ∀ {ts : List Tre}, formL k ts = true → ∀ t ∈ ts, formT t = true ∧ badPair k t.kind = false
  | [], _, t, h => by cases h
  | x :: ts, hf, t, h => by
    rw [formL] at hf
    simp only [Bool.and_eq_true, Bool.not_eq_true'] at hf
    rcases List.mem_cons.1 h with rfl | h
    · exact ⟨hf.2.1, hf.1⟩
    · exact formL_mem hf.2.2 t h
theorem unsc_text {n : Tre} (h : formT n = true) : (unsc n).text.size ≤ 1000 := by
  unfold unsc
  split
  · split
    · next b ks hks =>
      split
      · next x hx =>
        have hb := (form_kids (s := 0) (d := b) h (by rw [hks]; rfl)).1
        exact form_text (form_kids (s := 0) (d := x) hb (by rw [hx]; rfl)).1
      · exact form_text h
    · exact form_text h
  · exact form_text h
theorem toks_size {rs : List Rul} : ∀ {l : List Tre} {ts : List ByteArray}, (∀ n ∈ l, formT n = true) → toksN rs l = .inl ts → ∀ t ∈ ts, t.size ≤ 1000
  | [], ts, _, h, t, ht => by
    simp only [toksN, Sum.inl.injEq] at h
    rw [← h] at ht
    cases ht
  | x :: l, ts, hf, h, t, ht => by
    simp only [toksN, tokN_eq] at h
    cases hr : rolB rs x with
    | false => rw [hr] at h; simp at h
    | true =>
      rw [hr, if_pos rfl] at h
      dsimp only at h
      cases hl : toksN rs l with
      | inr j => rw [hl] at h; cases h
      | inl us =>
        rw [hl] at h
        simp only [Sum.inl.injEq] at h
        rw [← h] at ht
        rcases List.mem_cons.1 ht with rfl | ht
        · unfold tokS
          split
          · exact unsc_text (hf x List.mem_cons_self)
          · decide
        · exact toks_size (fun n hn => hf n (List.mem_cons_of_mem _ hn)) hl t ht
theorem OwnToks.at_ {w : World} {B : Nat} {v : Value} {ts : List ByteArray} (h : OwnToks w B v ts) (hs : ∀ t ∈ ts, t.size ≤ 1000) : ∃ AT cT, v = .slice AT ts.length cT ∧ ts.length ≤ cT ∧ cT ≤ 9223372036854775807 ∧ ToksAt w AT ts := by
  obtain ⟨h1, h2⟩ := h
  rcases h2 with ⟨rfl, h0⟩ | ⟨gq, cp, cur, rfl, hg, hb, hn, hc, hz, ht⟩
  · obtain rfl : ts = [] := List.length_eq_zero_iff.1 h0
    exact ⟨none, 0, rfl, Nat.le_refl _, by omega, fun i t hi => by simp at hi⟩
  · have hb : Blk w gq 9 cur := hb
    refine ⟨_, cp, rfl, hn, by unfold maxLen at hc; omega, fun i t hi => ⟨by have := hs t (List.mem_of_getElem? hi); omega, ⟨gq, 0, none⟩, rfl, hb.lt, ?_⟩⟩
    have hcell := hb.cell i
    have h3 : (ts.map Value.string)[i]? = some (.string t) := by rw [List.getElem?_map, hi]; rfl
    rw [← ht, List.getElem?_take] at h3
    split at h3
    · rw [show (⟨gq, 0, none⟩ : Addr).add i = ⟨gq, i, none⟩ by unfold Addr.add; split <;> simp_all, hcell, ← Array.getElem?_toList]
      exact h3
    · cases h3
theorem len_count : ∀ ts : List Tre, ts.length ≤ countL ts
  | [] => Nat.le_refl _
  | t :: ts => by
    obtain ⟨k, a, b, ks⟩ := t
    rw [List.length_cons, countL, countT]
    have := len_count ts
    omega
theorem kids_drop {w : World} {ad : Addr} {ts : List Tre} (h : KidsAt w (some ad) ts) (k : Nat) : KidsAt w (some (ad.add (k * 4))) (ts.drop k) := fun i t hi => by
  rw [List.getElem?_drop] at hi
  obtain ⟨ad', h1, h2, c, h3, h4⟩ := h (k + i) t hi
  obtain rfl := Option.some.inj h1
  refine ⟨_, rfl, by rw [block_of_add]; exact h2, c, h3, fun j hj => ?_⟩
  rw [Ch.add_of_add, ← h4 j hj]
  congr 2
  omega
set_option maxRecDepth 100000 in
set_option maxHeartbeats 8000000 in
theorem list_step (g : Nat) (A : Option Addr) (cap : Nat) (rs : List Rul) (hrc : rs.length ≤ cap) (hcc : cap ≤ 9223372036854775807) (f : Nat) (HL : ListC g A cap rs f) : ListC g A cap rs (f + 1) := by
  intro items path k A1 Ap c1 cp w hR hK hn1 hc1 hP hpl hcnt hF hk2
  obtain ⟨i0, hi, hz0, hz1, hz2⟩ := Sp.info_parts info_tm
  have HB := Lib.hid (bel_alloc w (.cells zerC 31))
  have K0 := Lib.hid (Blk.new w 31 zerC)
  have HR := Lib.hid hR
  have HK := Lib.hid hK
  have HP := Lib.hid hP
  have HPL := Lib.hid hpl
  have HCN := Lib.hid hcnt
  have HFO := Lib.hid hF
  have HLL := Lib.hid HL
  have HIL := Lib.hid (show items.length ≤ 1000000 by have := len_count items; omega)
  have HW0 := Lib.hid (show w.heap.size < (w.alloc (.cells zerC 31)).heap.size by simp)
  clear hR hK hP hpl hcnt hF HL
  go_enter Tryz.func37, Tryz.ntmps37
  go_upto_region 1 with (fail)
  generalize w.alloc (.cells zerC 31) = w1 at *
  by_cases hlk : items.length ≤ k
  · have q1 : (items.length : Int) ≤ (k : Int) := by omega
    have HO := Lib.hid (show listM rs (f + 1) items path k = .bad 15 (path ++ [(k : Int)]) by rw [listM]; unfold listF; rw [if_pos hlk])
    clear hlk
    go_wp2_with fail
    refine (fail_any Ap path cp ((k : Int)) 15 w1 (HP.out.keep HB.out) (by have := HPL.out; omega)).mono ?_
    rintro e wf ⟨gf, rfl, hff, hb⟩
    have HFF := Lib.hid hff
    have HSZW := Lib.hid HB.out.size
    replace HB := Lib.hid (HB.out.trans (hb.mono HB.out.size))
    replace K0 := Lib.hid (keep hb K0.out)
    have HWL := Lib.hid (show w.heap.size < w1.heap.size from HW0.out)
    clear hb hff
    have k0c := fun i => K0.out.cell i
    have k0f := fun i => K0.out.frozen i
    go_wp2_with fail
    have KR := Lib.hid (set5 K0.out (.int .i64 0) (.string ⟨#[]⟩) (.string ⟨#[]⟩) (.slice none 0 0) (.string ⟨#[]⟩))
    have HB5 := Lib.hid (below5 (g := w.heap.size) HB.out HB.out.size (by omega) (.int .i64 0) (.string ⟨#[]⟩) (.string ⟨#[]⟩) (.slice none 0 0) (.string ⟨#[]⟩))
    have HG5 := Lib.hid (grown5 wf (w.heap.size) (.int .i64 0) (.string ⟨#[]⟩) (.string ⟨#[]⟩) (.slice none 0 0) (.string ⟨#[]⟩))
    generalize ((((wf.setCell ⟨w.heap.size, 0, none⟩ (.int .i64 0)).setCell ⟨w.heap.size, 1, none⟩ (.string ⟨#[]⟩)).setCell ⟨w.heap.size, 2, none⟩ (.string ⟨#[]⟩)).setCell ⟨w.heap.size, 3, none⟩ (.slice none 0 0)).setCell ⟨w.heap.size, 4, none⟩ (.string ⟨#[]⟩) = w9 at *
    have r0 := KR.out.cell 0
    have r1 := KR.out.cell 1
    have r2 := KR.out.cell 2
    have r3 := KR.out.cell 3
    have r4 := KR.out.cell 4
    exact bodyPost_ret (v := .tuple #[.agg #[.int .i64 0, .string ⟨#[]⟩, .string ⟨#[]⟩, .slice none 0 0, .string ⟨#[]⟩], .pointer (some ⟨gf, 0, none⟩)]) (by simp [results, Tryz.results37, go_sem, r0, r1, r2, r3, r4]) rfl (show MeaP _ _ _ _ by rw [HO.out]; exact ⟨⟨gf, rfl, (HFF.out.grown HG5.out fun hb => by have := HWL.out; omega).any fun b _ hb => by have := HWL.out; omega⟩, HB5.out⟩)
  have q1 : ¬ ((items.length : Int) ≤ (k : Int)) := by omega
  have HO := Lib.hid (show listM rs (f + 1) items path k = listF rs (listM rs f) items path k by rw [listM])
  obtain ⟨ad, rfl⟩ : ∃ ad, A1 = some ad := by
    obtain ⟨ad, h, _⟩ := HK.out 0 _ (List.getElem?_eq_getElem (by omega))
    exact ⟨ad, h⟩
  obtain ⟨l, hl⟩ : ∃ l, l = items.drop k := ⟨_, rfl⟩
  have HLD := Lib.hid hl
  have HLN := Lib.hid (show l.length = items.length - k by rw [hl, List.length_drop])
  have HKL := Lib.hid (show KidsAt w1 (some (ad.add (k * 4))) l by rw [hl]; exact kids_drop (HK.out.keep HB.out) k)
  have HRW := Lib.hid (HR.out.keep HB.out)
  have HLK := Lib.hid hlk
  have HFL := Lib.hid (show ∀ n ∈ l, formT n = true ∧ badPair 1 n.kind = false from fun n hn => formL_mem HFO.out n (by rw [hl] at hn; exact List.mem_of_mem_drop hn))
  have qk : ¬ (c1 = k) := by omega
  have qk2 : k ≤ c1 := by omega
  have qk3 : k ≤ items.length := by omega
  clear hl hlk
  go_upto_region 3 with (fail)
  go_wp2_with fail
  rw [← HLN.out]
  refine (tokens_any g A (some (ad.add (k * 4))) cap (c1 - k) rs l w1 HRW.out HKL.out (fun n hn hs => by obtain ⟨b0, sub, r, e⟩ := scr_kids (HFL.out n hn).1 hs; rw [e]; simp) (by have := HLN.out; have := HIL.out; omega)).mono ?_
  rintro e w2 ⟨hm, hb⟩
  replace HB := Lib.hid (HB.out.trans (hb.mono HB.out.size))
  replace K0 := Lib.hid (keep hb K0.out)
  have HW2 := Lib.hid (show w.heap.size < w2.heap.size from Nat.lt_of_lt_of_le HW0.out hb.size)
  have HW12 := Lib.hid hb.size
  have HB12 := Lib.hid hb
  clear hb
  cases htk : toksN rs l with
  | inr ib =>
    rw [htk] at hm
    subst hm
    have hib : ib < l.length := toksN_lt htk
    have HO2 := Lib.hid (show listM rs (f + 1) items path k = .bad 15 (path ++ [(k : Int) + (ib : Int)]) by
      rw [HO.out]
      unfold listF
      rw [if_neg HLK.out, ← HLD.out, htk]
      dsimp only
      rw [Int.natCast_add])
    have hbd : (k : Int) + (ib : Int) ≤ 2000000 := by have := HLN.out; have := HIL.out; omega
    clear htk hib
    replace HW0 := HW2
    go_wp2_with fail
    refine (fail_any Ap path cp ((k : Int) + (ib : Int)) 15 w2 (HP.out.keep HB.out) (by have := HPL.out; omega)).mono ?_
    rintro e wf ⟨gf, rfl, hff, hb⟩
    have HFF := Lib.hid hff
    have HSZW := Lib.hid HB.out.size
    replace HB := Lib.hid (HB.out.trans (hb.mono HB.out.size))
    replace K0 := Lib.hid (keep hb K0.out)
    have HWL := Lib.hid (show w.heap.size < w2.heap.size from HW0.out)
    clear hb hff
    have k0c := fun i => K0.out.cell i
    have k0f := fun i => K0.out.frozen i
    go_wp2_with fail
    have KR := Lib.hid (set5 K0.out (.int .i64 0) (.string ⟨#[]⟩) (.string ⟨#[]⟩) (.slice none 0 0) (.string ⟨#[]⟩))
    have HB5 := Lib.hid (below5 (g := w.heap.size) HB.out HB.out.size (by omega) (.int .i64 0) (.string ⟨#[]⟩) (.string ⟨#[]⟩) (.slice none 0 0) (.string ⟨#[]⟩))
    have HG5 := Lib.hid (grown5 wf (w.heap.size) (.int .i64 0) (.string ⟨#[]⟩) (.string ⟨#[]⟩) (.slice none 0 0) (.string ⟨#[]⟩))
    generalize ((((wf.setCell ⟨w.heap.size, 0, none⟩ (.int .i64 0)).setCell ⟨w.heap.size, 1, none⟩ (.string ⟨#[]⟩)).setCell ⟨w.heap.size, 2, none⟩ (.string ⟨#[]⟩)).setCell ⟨w.heap.size, 3, none⟩ (.slice none 0 0)).setCell ⟨w.heap.size, 4, none⟩ (.string ⟨#[]⟩) = w9 at *
    have r0 := KR.out.cell 0
    have r1 := KR.out.cell 1
    have r2 := KR.out.cell 2
    have r3 := KR.out.cell 3
    have r4 := KR.out.cell 4
    exact bodyPost_ret (v := .tuple #[.agg #[.int .i64 0, .string ⟨#[]⟩, .string ⟨#[]⟩, .slice none 0 0, .string ⟨#[]⟩], .pointer (some ⟨gf, 0, none⟩)]) (by simp [results, Tryz.results37, go_sem, r0, r1, r2, r3, r4]) rfl (show MeaP _ _ _ _ by rw [HO2.out]; exact ⟨⟨gf, rfl, (HFF.out.grown HG5.out fun hb => by have := HWL.out; omega).any fun b _ hb => by have := HWL.out; omega⟩, HB5.out⟩)
  | inl ts =>
    rw [htk] at hm
    obtain ⟨v, rfl, ho⟩ := hm
    have HTS := Lib.hid (toks_size (fun n hn => (HFL.out n hn).1) htk)
    have HTL := Lib.hid (toksN_len htk)
    obtain ⟨AT, cT, rfl, hct, hct2, hta⟩ := ho.at_ HTS.out
    have HTA := Lib.hid hta
    have HTK := Lib.hid htk
    have HRW2 := Lib.hid (HR.out.keep HB.out)
    obtain ⟨bb, nb, D, hbx, hmp, hse⟩ := HRW2.out.box
    have b0 := hbx.cell 0
    clear ho hta htk hbx hmp hse
    go_upto_region 6 with (fail)
    go_wp2_with fail
    refine (Ch.read_any A AT cap cT rs ts w2 HRW2.out.rul HTA.out hrc hcc).mono ?_
    rintro e w3 ⟨AR, cR, rfl, hr1, hr2, hrd, hb⟩
    have HRD := Lib.hid hrd
    replace HB := Lib.hid (HB.out.trans (hb.mono HB.out.size))
    replace K0 := Lib.hid (keep hb K0.out)
    replace HTA := Lib.hid (HTA.out.keep hb)
    replace HW0 := Lib.hid (show w.heap.size < w3.heap.size from Nat.lt_of_lt_of_le HW2.out hb.size)
    have HW23 := Lib.hid hb.size
    have HB13 := Lib.hid (show Below w1.heap.size w1 w3 from HB12.out.trans (hb.mono HB12.out.size))
    clear hrd hb b0
    have HRL := Lib.hid (show readL rs ts = (readsM rs ts).take 2 by unfold readL readsM; split <;> simp)
    have HO3 := Lib.hid (show listM rs (f + 1) items path k = (match readsM rs ts with
      | [] => .bad 15 (path ++ [(k : Int)])
      | [x] => (partsF rs (listM rs f) path (fun i => kndR rs ((ruleA (asgR rs x ts.length) ts.length).getD i 0)) k l ts 0).then_ fun ps => .ok (trmR rs ps x ts.length)
      | _ :: _ :: _ => .bad 14 (path ++ [(k : Int)])) by
      rw [HO.out]
      unfold listF
      rw [if_neg HLK.out, ← HLD.out, HTK.out]
      rfl)
    cases hrm : readsM rs ts with
    | nil =>
      have HO2 := Lib.hid (show listM rs (f + 1) items path k = .bad 15 (path ++ [(k : Int)]) by rw [HO3.out, hrm])
      rw [HRL.out, hrm]
      rw [HRL.out, hrm] at hr1 HRD
      have hoi : okI rs ts = 0 ∨ okI rs ts = 1 := by unfold okI; split <;> simp
      generalize okI rs ts = oi at *
      clear hrm HO3 HRL
      rcases hoi with rfl | rfl
      · go_wp2_with fail
        refine (fail_any Ap path cp ((k : Int)) 15 w3 (HP.out.keep HB.out) (by have := HPL.out; omega)).mono ?_
        rintro e wf ⟨gf, rfl, hff, hb⟩
        have HFF := Lib.hid hff
        have HSZW := Lib.hid HB.out.size
        replace HB := Lib.hid (HB.out.trans (hb.mono HB.out.size))
        replace K0 := Lib.hid (keep hb K0.out)
        have HWL := Lib.hid (show w.heap.size < w3.heap.size from HW0.out)
        clear hb hff
        have k0c := fun i => K0.out.cell i
        have k0f := fun i => K0.out.frozen i
        go_wp2_with fail
        have KR := Lib.hid (set5 K0.out (.int .i64 0) (.string ⟨#[]⟩) (.string ⟨#[]⟩) (.slice none 0 0) (.string ⟨#[]⟩))
        have HB5 := Lib.hid (below5 (g := w.heap.size) HB.out HB.out.size (by omega) (.int .i64 0) (.string ⟨#[]⟩) (.string ⟨#[]⟩) (.slice none 0 0) (.string ⟨#[]⟩))
        have HG5 := Lib.hid (grown5 wf (w.heap.size) (.int .i64 0) (.string ⟨#[]⟩) (.string ⟨#[]⟩) (.slice none 0 0) (.string ⟨#[]⟩))
        generalize ((((wf.setCell ⟨w.heap.size, 0, none⟩ (.int .i64 0)).setCell ⟨w.heap.size, 1, none⟩ (.string ⟨#[]⟩)).setCell ⟨w.heap.size, 2, none⟩ (.string ⟨#[]⟩)).setCell ⟨w.heap.size, 3, none⟩ (.slice none 0 0)).setCell ⟨w.heap.size, 4, none⟩ (.string ⟨#[]⟩) = w9 at *
        have r0 := KR.out.cell 0
        have r1 := KR.out.cell 1
        have r2 := KR.out.cell 2
        have r3 := KR.out.cell 3
        have r4 := KR.out.cell 4
        exact bodyPost_ret (v := .tuple #[.agg #[.int .i64 0, .string ⟨#[]⟩, .string ⟨#[]⟩, .slice none 0 0, .string ⟨#[]⟩], .pointer (some ⟨gf, 0, none⟩)]) (by simp [results, Tryz.results37, go_sem, r0, r1, r2, r3, r4]) rfl (show MeaP _ _ _ _ by rw [HO2.out]; exact ⟨⟨gf, rfl, (HFF.out.grown HG5.out fun hb => by have := HWL.out; omega).any fun b _ hb => by have := HWL.out; omega⟩, HB5.out⟩)
      · go_wp2_with fail
        refine (fail_any Ap path cp ((k : Int)) 15 w3 (HP.out.keep HB.out) (by have := HPL.out; omega)).mono ?_
        rintro e wf ⟨gf, rfl, hff, hb⟩
        have HFF := Lib.hid hff
        have HSZW := Lib.hid HB.out.size
        replace HB := Lib.hid (HB.out.trans (hb.mono HB.out.size))
        replace K0 := Lib.hid (keep hb K0.out)
        have HWL := Lib.hid (show w.heap.size < w3.heap.size from HW0.out)
        clear hb hff
        have k0c := fun i => K0.out.cell i
        have k0f := fun i => K0.out.frozen i
        go_wp2_with fail
        have KR := Lib.hid (set5 K0.out (.int .i64 0) (.string ⟨#[]⟩) (.string ⟨#[]⟩) (.slice none 0 0) (.string ⟨#[]⟩))
        have HB5 := Lib.hid (below5 (g := w.heap.size) HB.out HB.out.size (by omega) (.int .i64 0) (.string ⟨#[]⟩) (.string ⟨#[]⟩) (.slice none 0 0) (.string ⟨#[]⟩))
        have HG5 := Lib.hid (grown5 wf (w.heap.size) (.int .i64 0) (.string ⟨#[]⟩) (.string ⟨#[]⟩) (.slice none 0 0) (.string ⟨#[]⟩))
        generalize ((((wf.setCell ⟨w.heap.size, 0, none⟩ (.int .i64 0)).setCell ⟨w.heap.size, 1, none⟩ (.string ⟨#[]⟩)).setCell ⟨w.heap.size, 2, none⟩ (.string ⟨#[]⟩)).setCell ⟨w.heap.size, 3, none⟩ (.slice none 0 0)).setCell ⟨w.heap.size, 4, none⟩ (.string ⟨#[]⟩) = w9 at *
        have r0 := KR.out.cell 0
        have r1 := KR.out.cell 1
        have r2 := KR.out.cell 2
        have r3 := KR.out.cell 3
        have r4 := KR.out.cell 4
        exact bodyPost_ret (v := .tuple #[.agg #[.int .i64 0, .string ⟨#[]⟩, .string ⟨#[]⟩, .slice none 0 0, .string ⟨#[]⟩], .pointer (some ⟨gf, 0, none⟩)]) (by simp [results, Tryz.results37, go_sem, r0, r1, r2, r3, r4]) rfl (show MeaP _ _ _ _ by rw [HO2.out]; exact ⟨⟨gf, rfl, (HFF.out.grown HG5.out fun hb => by have := HWL.out; omega).any fun b _ hb => by have := HWL.out; omega⟩, HB5.out⟩)
    | cons x xr =>
      have hoi : okI rs ts = 0 := by
        unfold okI
        unfold readsM at hrm
        by_cases hq : (validB rs && toksB ts) = true
        · rw [if_pos hq]
        · rw [if_neg hq] at hrm; cases hrm
      cases hxr : xr with
      | cons y yr =>
        rw [hxr] at hrm
        have HO2 := Lib.hid (show listM rs (f + 1) items path k = .bad 14 (path ++ [(k : Int)]) by rw [HO3.out, hrm])
        rw [HRL.out, hrm]
        clear hrm HO3 HRL hxr hoi hr1 HRD
        go_wp2_with fail
        refine (fail_any Ap path cp ((k : Int)) 14 w3 (HP.out.keep HB.out) (by have := HPL.out; omega)).mono ?_
        rintro e wf ⟨gf, rfl, hff, hb⟩
        have HFF := Lib.hid hff
        have HSZW := Lib.hid HB.out.size
        replace HB := Lib.hid (HB.out.trans (hb.mono HB.out.size))
        replace K0 := Lib.hid (keep hb K0.out)
        have HWL := Lib.hid (show w.heap.size < w3.heap.size from HW0.out)
        clear hb hff
        have k0c := fun i => K0.out.cell i
        have k0f := fun i => K0.out.frozen i
        go_wp2_with fail
        have KR := Lib.hid (set5 K0.out (.int .i64 0) (.string ⟨#[]⟩) (.string ⟨#[]⟩) (.slice none 0 0) (.string ⟨#[]⟩))
        have HB5 := Lib.hid (below5 (g := w.heap.size) HB.out HB.out.size (by omega) (.int .i64 0) (.string ⟨#[]⟩) (.string ⟨#[]⟩) (.slice none 0 0) (.string ⟨#[]⟩))
        have HG5 := Lib.hid (grown5 wf (w.heap.size) (.int .i64 0) (.string ⟨#[]⟩) (.string ⟨#[]⟩) (.slice none 0 0) (.string ⟨#[]⟩))
        generalize ((((wf.setCell ⟨w.heap.size, 0, none⟩ (.int .i64 0)).setCell ⟨w.heap.size, 1, none⟩ (.string ⟨#[]⟩)).setCell ⟨w.heap.size, 2, none⟩ (.string ⟨#[]⟩)).setCell ⟨w.heap.size, 3, none⟩ (.slice none 0 0)).setCell ⟨w.heap.size, 4, none⟩ (.string ⟨#[]⟩) = w9 at *
        have r0 := KR.out.cell 0
        have r1 := KR.out.cell 1
        have r2 := KR.out.cell 2
        have r3 := KR.out.cell 3
        have r4 := KR.out.cell 4
        exact bodyPost_ret (v := .tuple #[.agg #[.int .i64 0, .string ⟨#[]⟩, .string ⟨#[]⟩, .slice none 0 0, .string ⟨#[]⟩], .pointer (some ⟨gf, 0, none⟩)]) (by simp [results, Tryz.results37, go_sem, r0, r1, r2, r3, r4]) rfl (show MeaP _ _ _ _ by rw [HO2.out]; exact ⟨⟨gf, rfl, (HFF.out.grown HG5.out fun hb => by have := HWL.out; omega).any fun b _ hb => by have := HWL.out; omega⟩, HB5.out⟩)
      | nil =>
        rw [hxr] at hrm
        have hmem : x ∈ allR rs ts 0 ts.length := by
          unfold readsM at hrm
          split at hrm
          · rw [hrm]; exact List.mem_cons_self
          · cases hrm
        have HOKX := Lib.hid (ok_of_mem _ 0 ts.length x (Nat.le_refl _) hmem)
        have HMEM := Lib.hid hmem
        replace HO3 := Lib.hid (show listM rs (f + 1) items path k = (partsF rs (listM rs f) path (fun i => kndR rs ((ruleA (asgR rs x ts.length) ts.length).getD i 0)) k l ts 0).then_ fun ps => .ok (trmR rs ps x ts.length) by rw [HO3.out, hrm])
        rw [HRL.out, hrm] at hr1 HRD ⊢
        rw [hoi]
        clear hrm HRL hxr hoi hmem
        obtain ⟨adR, A9, cap9, rfl, hadl9, hX9, hl9, hc9, hk9, x0, x1, x2⟩ := Ch.RdsAt.at_ HRD.out (k := 0) (x := x) rfl
        rw [show adR.add (0 * 3) = adR by unfold Addr.add; cases adR; simp] at x0 x1 x2
        have HX9 := Lib.hid hX9
        have HTN := Lib.hid (show ts.length ≤ 1000000 by have := HTL.out; have := HLN.out; have := HIL.out; omega)
        obtain ⟨ii, hii, hiz, his, hib⟩ := Sp.info_parts info_int
        have hmk := run_make (P := Tryz.prog) w3 32 3 ii (.int .i64 0) Tryz.underlying32 hii hiz .i64 .i64 (ts.length : Int) (ts.length : Int) (by omega) (Int.le_refl _) (by rw [hib]; have := HTN.out; omega) (by have := HTN.out; omega)
        rw [his, Int.toNat_natCast, Nat.mul_one] at hmk
        have hmz : madeCells (Value.int .i64 0).cells ts.length = (ints (List.replicate ts.length 0)).toArray := made_ints ts.length
        rw [hmz] at hmk
        have hlen1 : (0 : Int) < (([x] : List Rd).length : Int) := by simp
        clear hX9 hk9 hmz
        go_upto_region 12 with (fail)
        have hba := bel_alloc w3 (.cells (ints (List.replicate ts.length 0)).toArray 3)
        have HRB := Lib.hid (show rulesB (w3.alloc (.cells (ints (List.replicate ts.length 0)).toArray 3)) w3.heap.size (List.replicate ts.length 0) from Blk.new w3 _ _)
        have HB34 := Lib.hid hba
        replace K0 := Lib.hid (keep hba K0.out)
        have y0 := (hba.cell (p := adR) hadl9).trans x0
        have y1 := (hba.cell (p := ⟨adR.block, adR.off + 1, none⟩) hadl9).trans x1
        have y2 := (hba.cell (p := ⟨adR.block, adR.off + 2, none⟩) hadl9).trans x2
        clear hba hmk
        generalize w3.alloc (.cells (ints (List.replicate ts.length 0)).toArray 3) = w4 at *
        go_wp2_with fail
        refine (assign_any (fun b => w2.heap.size ≤ b) g A cap rs w3.heap.size ts.length HTN.out (sizeR x) x 0 ts.length (rdC x.rule x.at_ A9 x.kids.length cap9) (List.replicate ts.length 0) w3 w4 (Nat.le_refl _) HOKX.out (HR.out.keep HB.out) HX9.out HB34.out (Nat.le_refl _) HRB.out (List.length_replicate ..) (Nat.le_refl _)).mono ?_
        rintro e w5 ⟨rfl, hl5, hg5⟩
        have HRA := Lib.hid (show rulesB w5 w3.heap.size (ruleA (asgR rs x ts.length) ts.length) from hl5)
        have HB35 := Lib.hid (HB34.out.trans (hg5.down HB34.out.size (Nat.le_refl _)))
        replace K0 := Lib.hid (hg5.blk K0.out (by have := HW0.out; omega))
        have HW35 := Lib.hid (show w3.heap.size < w5.heap.size from hl5.lt)
        clear hl5 hg5 y0 y1 y2 HRB
        obtain ⟨ip, hip, hipz, hips, hipb⟩ := Sp.info_parts info_prt
        have hmk := run_make (P := Tryz.prog) w5 109 113 ip (.agg zerPC) Tryz.underlying109 hip hipz .i64 .i64 (ts.length : Int) (ts.length : Int) (by omega) (Int.le_refl _) (by rw [hipb]; have := HTN.out; omega) (by have := HTN.out; omega)
        rw [hips, Int.toNat_natCast] at hmk
        rw [show (Value.agg zerPC).cells = zerPC from rfl] at hmk
        go_upto_region 14 with (fail)
        have hba := bel_alloc w5 (.cells (madeCells zerPC (ts.length * 8)) 113)
        have HPA := Lib.hid (made_parts (fun b => w5.heap.size < b) w5 ts.length)
        have HS6 := Lib.hid (LiS.mk (w := w) (HB35.out.trans (hba.mono HB35.out.size)) (keep hba K0.out) (show rulesB _ _ _ from keep hba HRA.out) HPA.out (Nat.le_refl _) HW35.out)
        clear hba hmk HPA K0 HRA HB34 HB35
        generalize w5.alloc (.cells (madeCells zerPC (ts.length * 8)) 113) = w6 at *
        generalize w5.heap.size = gp at *
        go_wp2_with fail
        rw [← HLN.out]
        generalize ad.add (k * 4) = adl at *
        obtain ⟨RA, hRA⟩ : ∃ RA, RA = ruleA (asgR rs x ts.length) ts.length := ⟨_, rfl⟩
        rw [← hRA] at HS6 HO3
        have HRAE := Lib.hid hRA
        clear hRA
        go_loopw [91] (fun i wr => ∃ (q : Nat) (done : List Prt), q ≤ l.length ∧ i = .int .i64 q ∧ done.length = q ∧ Hid (PSoFar (partsF rs (listM rs f) path (fun i => kndR rs (RA.getD i 0)) k l ts 0) done (partsF rs (listM rs f) path (fun i => kndR rs (RA.getD i 0)) k (l.drop q) (ts.drop q) q)) ∧ Hid (LiS w w3 w3.heap.size gp RA (done ++ List.replicate (ts.length - q) zerP) wr)) (fun i _ => l.length - (intOf i).toNat)
        case atStart => exact ⟨0, [], by omega, rfl, rfl, Lib.hid (PSoFar.start _), by rw [List.nil_append, Nat.sub_zero]; exact HS6⟩
        case round =>
          clear HS6
          obtain ⟨q, done, hq, rfl, hdq, HPF, HS⟩ := hrel
          by_cases hlt : q < l.length
          · obtain ⟨n, hn⟩ : ∃ n, l[q]? = some n := ⟨_, List.getElem?_eq_getElem hlt⟩
            obtain ⟨tq, htq⟩ : ∃ tq, ts[q]? = some tq := ⟨_, List.getElem?_eq_getElem (by rw [HTL.out]; exact hlt)⟩
            have HS0 := Lib.hid (show gp < wr.heap.size from HS.out.pa.choose_spec.1.lt)
            have HW13 := Lib.hid (show Below w1.heap.size w1 wr from HB13.out.trans (HS.out.b3.mono HB13.out.size))
            obtain ⟨ad', A3, cap3, hade, hadl, hsz3, hl3, hc3, hk3, hn3, d0, d1, d2, d3⟩ := (HKL.out.keep HW13.out).at_ hn
            obtain rfl := Option.some.inj hade
            have HND := Lib.hid hn3
            have HFN := Lib.hid (HFL.out n (List.mem_of_getElem? hn))
            have HCN2 := Lib.hid (show countT n ≤ countL items from by
              have h1 : items[k + q]? = some n := by rw [← hn, HLD.out, List.getElem?_drop]
              exact count_mem h1)
            have HPF2 := Lib.hid (show PSoFar _ done ((if tq.data.toList = [35] then opndF (listM rs f) n (path ++ [((k + q : Nat) : Int)]) else scrF rs (listM rs f) n (path ++ [((k + q : Nat) : Int)]) (decide (kndR rs (RA.getD q 0) = 2))).then_ fun p => (partsF rs (listM rs f) path (fun i => kndR rs (RA.getD i 0)) k (l.drop (q + 1)) (ts.drop (q + 1)) (q + 1)).then_ fun ps => .ok (p :: ps)) by
              have hpn := parts_next (rs := rs) (M := listM rs f) (path := path) (kd := fun i => kndR rs (RA.getD i 0)) (k := k) hn htq
              have h := HPF.out
              rw [hpn] at h
              exact h)
            obtain ⟨ht1, adt, rfl, hadt, htc⟩ := (HTA.out.keep HS.out.b3) q tq htq
            have HTC2 := Lib.hid (And.intro hadt htc)
            have HKO := Lib.hid (show tq.data.toList ≠ [35] → (n.kind = 2 ∨ scrB n.kind = true) ∧ ∃ (rn : Nat) (u : Rul), RA.getD q 0 = (rn : Int) ∧ rs[rn]? = some u from fun hne => by
              have h1 := toks_at HTK.out q n hn
              rw [htq] at h1
              refine ⟨op_kind (tok_op (by rw [← Option.some.inj h1.1]; exact hne)), ?_⟩
              rcases cover _ 0 ts.length x (Nat.le_refl _) HMEM.out q (Nat.zero_le _) (List.getElem?_eq_some_iff.1 htq).1 with h2 | ⟨rn, h2⟩
              · rw [tok_at htq] at h2
                exact absurd (of_decide_eq_true h2) hne
              · obtain ⟨a, b, e, _, _, h4⟩ := asg_range HOKX.out _ h2
                injection e with e1 e2
                refine ⟨b, _, ?_, List.getElem?_eq_getElem h4⟩
                rw [HRAE.out, rule_at_ HOKX.out h2, e2])
            have HRL3 := Lib.hid (show rulesB wr w3.heap.size RA from HS.out.rl)
            have HDQ := Lib.hid hdq
            have HLT := Lib.hid (show q < ts.length by rw [HTL.out]; exact hlt)
            have hkq : (k : Int) + (q : Int) ≤ 2000000 := by have := HLN.out; have := HIL.out; omega
            obtain ⟨pq, hpq⟩ : ∃ pq, pq = path ++ [(k : Int) + (q : Int)] := ⟨_, rfl⟩
            have HPQ := Lib.hid hpq
            have HPS := Lib.hid (show pq.length = path.length + 1 by rw [hpq, List.length_append]; rfl)
            rw [Int.natCast_add, ← hpq] at HPF2
            clear hpq hn htq hade hk3 hn3 HPF htc hadt hdq
            go_upto_region 17 with (fail)
            have hba := bel_alloc wr (.cells #[.int .i64 n.kind, .string n.text, .int .i64 n.cols, .slice A3 n.kids.length cap3] 25)
            have KN := Lib.hid (Blk.new wr 25 #[.int .i64 n.kind, .string n.text, .int .i64 n.cols, .slice A3 n.kids.length cap3])
            replace HS := Lib.hid (HS.out.keep hba)
            replace HND := Lib.hid (HND.out.keep hba)
            replace HTC2 := Lib.hid (And.intro (Nat.lt_of_lt_of_le HTC2.out.1 hba.size) ((hba.cell (p := adt.add q) (by rw [block_of_add]; exact HTC2.out.1)).trans HTC2.out.2))
            have HGK := Lib.hid (show gp < wr.heap.size from HS0.out)
            clear hba d0 d1 d2 d3 hadl HW13
            generalize wr.heap.size = gn at *
            generalize wr.alloc (.cells #[.int .i64 n.kind, .string n.text, .int .i64 n.cols, .slice A3 n.kids.length cap3] 25) = w7 at *
            have b1 := bel_alloc w7 (.cells #[.int .i64 ((k : Int) + (q : Int))] 3)
            have s1 : (w7.alloc (.cells #[.int .i64 ((k : Int) + (q : Int))] 3)).heap.size = w7.heap.size + 1 := by simp
            have b2 := bel_alloc (w7.alloc (.cells #[.int .i64 ((k : Int) + (q : Int))] 3)) (.cells #[.slice Ap path.length cp, .slice (some ⟨w7.heap.size, 0, none⟩) 1 1] 32)
            have KA := Lib.hid (keep b2 (Blk.new w7 3 #[.int .i64 ((k : Int) + (q : Int))]))
            have KB := Lib.hid (Blk.new (w7.alloc (.cells #[.int .i64 ((k : Int) + (q : Int))] 3)) 32 #[.slice Ap path.length cp, .slice (some ⟨w7.heap.size, 0, none⟩) 1 1])
            rw [s1] at KB
            have hb12 := b1.trans (b2.mono b1.size)
            have HPW := Lib.hid ((HP.out.keep HB.out).keep (HS.out.b3.trans (hb12.mono HS.out.b3.size)))
            have HS2 := Lib.hid (HS.out.keep hb12)
            have HND2 := Lib.hid (HND.out.keep hb12)
            have KN2 := Lib.hid (keep hb12 KN.out)
            have HTC3 := Lib.hid (And.intro (Nat.lt_of_lt_of_le HTC2.out.1 hb12.size) ((hb12.cell (p := adt.add q) (by rw [block_of_add]; exact HTC2.out.1)).trans HTC2.out.2))
            have hk0 : (0 : Int) ≤ (k : Int) + (q : Int) := by omega
            clear b1 b2 s1 hb12 HS HND KN HTC2
            go_wp2_with fail
            refine (step_any (w7.heap.size + 1) w7.heap.size Ap path cp ((k : Int) + (q : Int)) _ KB.out KA.out HPW.out (by have := HPL.out; omega)).mono ?_
            rintro e w8 ⟨⟨q8, A8, c8, hq8, rfl, hc81, hc82, hpa, _⟩, hb⟩
            rw [← HPQ.out] at hq8
            have HP8 := Lib.hid (show PathAt w8 A8 pq by rw [← hq8]; exact hpa)
            have HS := Lib.hid (HS2.out.keep hb)
            have HND := Lib.hid (HND2.out.keep hb)
            have KN := Lib.hid (keep hb KN2.out)
            have HTC2 := Lib.hid (And.intro (Nat.lt_of_lt_of_le HTC3.out.1 hb.size) ((hb.cell (p := adt.add q) (by rw [block_of_add]; exact HTC3.out.1)).trans HTC3.out.2))
            rw [hq8]
            clear hb hpa HS2 HND2 KN2 HTC3 hq8 KA KB HPW hc81 hc82
            have htc := HTC2.out.2
            have hq0 : (q : Int) < (ts.length : Int) := by have := HLT.out; omega
            by_cases htk : tq.data.toList = [35]
            · have qt : (tq.toList == [35]) = true := by rw [ByteArray.toList_eq, htk]; rfl
              rw [if_pos htk] at HPF2
              clear htk
              have n0 := KN.out.cell 0
              have n1 := KN.out.cell 1
              have n2 := KN.out.cell 2
              have n3 := KN.out.cell 3
              go_wp2_with fail
              refine (operand_any g A cap rs f HLL.out n _ pq A8 c8 w8 ((HR.out.keep HB.out).keep HS.out.b3) HND.out HP8.out HFN.out.1 (fun e => by have h := HFN.out.2; rw [e] at h; simp [badPair] at h) (by have := HCN.out; have := HCN2.out; omega) (by have := HPS.out; have := HPL.out; have := HCN2.out; omega)).mono ?_
              rintro e w9 hm
              cases hop : opndF (listM rs f) n pq with
              | bad er p =>
                rw [hop] at hm
                obtain ⟨⟨gf, rfl, hff⟩, hb⟩ := hm
                have HFF := Lib.hid hff
                have HS9 := Lib.hid (HS.out.keep hb)
                have HO2 := Lib.hid (show listM rs (f + 1) items path k = .bad er p by rw [HO3.out, HPF2.out.bad hop]; rfl)
                have HGW := Lib.hid (show gp < w8.heap.size from HS.out.pa.choose_spec.1.lt)
                have HLW := Lib.hid (show w.heap.size < gp from by have := HS.out.l3; have := HS.out.lp; have := HW0.out; omega)
                have hqd : q < (done ++ List.replicate (ts.length - q) zerP).length := by rw [List.length_append, List.length_replicate, HDQ.out]; have := HLT.out; omega
                obtain ⟨uu, huu⟩ := HS9.out.pa.cells hqd
                have c0 : w9.cell? ⟨gp, q * 8, none⟩ = some (uu 0) := (huu 0 (by omega)).1
                have c1 := (huu 1 (by omega)).1
                have c2 := (huu 2 (by omega)).1
                have c3 := (huu 3 (by omega)).1
                have c4 := (huu 4 (by omega)).1
                have f0 : w9.frozen? ⟨gp, q * 8, none⟩ = false := (huu 0 (by omega)).2
                have f1 := (huu 1 (by omega)).2
                have f2 := (huu 2 (by omega)).2
                have f3 := (huu 3 (by omega)).2
                have f4 := (huu 4 (by omega)).2
                clear n0 n1 n2 n3 hop hqd huu hff hb
                go_upto_region 22 with (fail)
                have HG9 := Lib.hid (setsAt_grown [.int .i64 0, .string ⟨#[]⟩, .string ⟨#[]⟩, .slice none 0 0, .string ⟨#[]⟩] w9 gp (q * 8))
                change Code.wp _ _ _ _ (setsAt w9 gp (q * 8) [.int .i64 0, .string ⟨#[]⟩, .string ⟨#[]⟩, .slice none 0 0, .string ⟨#[]⟩])
                have HB10 := Lib.hid (HB.out.trans ((HS9.out.b3.grown HG9.out HS9.out.b3.size fun r e => by have := Option.some.inj e; have := HS9.out.l3; have := HS9.out.lp; omega).mono HB.out.size))
                have K10 := Lib.hid (HS9.out.k0.grown HG9.out fun e => by have := Option.some.inj e; have := HLW.out; omega)
                have HF10 := Lib.hid (HFF.out.grown HG9.out fun hb => by have := HGW.out; omega)
                clear HG9 HS9 HS KN HND c0 c1 c2 c3 c4 f0 f1 f2 f3 f4 HFF
                generalize setsAt w9 gp (q * 8) [.int .i64 0, .string ⟨#[]⟩, .string ⟨#[]⟩, .slice none 0 0, .string ⟨#[]⟩] = w10 at *
                have k0c := fun i => K10.out.cell i
                have k0f := fun i => K10.out.frozen i
                go_wp2_with fail
                have KR := Lib.hid (set5 K10.out (.int .i64 0) (.string ⟨#[]⟩) (.string ⟨#[]⟩) (.slice none 0 0) (.string ⟨#[]⟩))
                have HB5 := Lib.hid (below5 (g := w.heap.size) HB10.out HB10.out.size (by omega) (.int .i64 0) (.string ⟨#[]⟩) (.string ⟨#[]⟩) (.slice none 0 0) (.string ⟨#[]⟩))
                have HG5 := Lib.hid (grown5 w10 (w.heap.size) (.int .i64 0) (.string ⟨#[]⟩) (.string ⟨#[]⟩) (.slice none 0 0) (.string ⟨#[]⟩))
                generalize ((((w10.setCell ⟨w.heap.size, 0, none⟩ (.int .i64 0)).setCell ⟨w.heap.size, 1, none⟩ (.string ⟨#[]⟩)).setCell ⟨w.heap.size, 2, none⟩ (.string ⟨#[]⟩)).setCell ⟨w.heap.size, 3, none⟩ (.slice none 0 0)).setCell ⟨w.heap.size, 4, none⟩ (.string ⟨#[]⟩) = w9 at *
                have r0 := KR.out.cell 0
                have r1 := KR.out.cell 1
                have r2 := KR.out.cell 2
                have r3 := KR.out.cell 3
                have r4 := KR.out.cell 4
                exact bodyPost_ret (v := .tuple #[.agg #[.int .i64 0, .string ⟨#[]⟩, .string ⟨#[]⟩, .slice none 0 0, .string ⟨#[]⟩], .pointer (some ⟨gf, 0, none⟩)]) (by simp [results, Tryz.results37, go_sem, r0, r1, r2, r3, r4]) rfl (show MeaP _ _ _ _ by rw [HO2.out]; exact ⟨⟨gf, rfl, (HF10.out.grown HG5.out fun hb => by have := HLW.out; have := HGW.out; omega).any fun b _ hb => by have := HLW.out; have := HGW.out; omega⟩, HB5.out⟩)
              | ok p =>
                rw [hop] at hm
                obtain ⟨⟨c9, rfl, ht9⟩, hb⟩ := hm
                obtain ⟨tk, ta, tv, tA, tn, tcp, tf, rfl⟩ := ht9.ext
                have HS9 := Lib.hid (HS.out.keep hb)
                have HPF3 := Lib.hid (HPF2.out.next hop)
                have HPE := Lib.hid (opnd_form hop)
                obtain ⟨m9, hm9⟩ : ∃ m9, ts.length - q = m9 + 1 := ⟨ts.length - q - 1, by have := HLT.out; omega⟩
                have HM9 := Lib.hid hm9
                have hqd : q < (done ++ List.replicate (ts.length - q) zerP).length := by rw [List.length_append, List.length_replicate, HDQ.out]; have := HLT.out; omega
                obtain ⟨uu, huu⟩ := HS9.out.pa.cells hqd
                have c0 : w9.cell? ⟨gp, q * 8, none⟩ = some (uu 0) := (huu 0 (by omega)).1
                have c1 := (huu 1 (by omega)).1
                have c2 := (huu 2 (by omega)).1
                have c3 := (huu 3 (by omega)).1
                have c4 := (huu 4 (by omega)).1
                have f0 : w9.frozen? ⟨gp, q * 8, none⟩ = false := (huu 0 (by omega)).2
                have f1 := (huu 1 (by omega)).2
                have f2 := (huu 2 (by omega)).2
                have f3 := (huu 3 (by omega)).2
                have f4 := (huu 4 (by omega)).2
                have HT9 := Lib.hid (ht9.any (ok' := fun b => gp < b) fun b _ h => by have := HS.out.pa.choose_spec.1.lt; omega)
                clear n0 n1 n2 n3 hop hm9 hqd huu ht9 hb
                go_upto_region 22 with (fail)
                have HG9 := Lib.hid (setsAt_grown [.int .i64 tk, .string ta, .string tv, .slice tA tn tcp, .string tf] w9 gp (q * 8))
                have HPA9 := Lib.hid (HS9.out.pa.putT (q := q) (t := p.opnd) (tk := tk) (ta := ta) (tv := tv) (tf := tf) (tA := tA) (tn := tn) (tc := tcp) (by rw [HM9.out, ← HDQ.out]; exact get_done) HT9.out (fun b hb => by omega))
                rw [HM9.out, ← HDQ.out, set_done, ← HPE.out, HDQ.out] at HPA9
                change Code.wp _ _ _ _ (setsAt w9 gp (q * 8) [.int .i64 tk, .string ta, .string tv, .slice tA tn tcp, .string tf])
                have HS10 := Lib.hid (LiS.mk (w := w) (w3 := w3) (HS9.out.b3.grown HG9.out HS9.out.b3.size fun r e => by have := Option.some.inj e; have := HS9.out.l3; have := HS9.out.lp; omega) (HS9.out.k0.grown HG9.out fun e => by have := Option.some.inj e; have := HS9.out.l3; have := HS9.out.lp; have := HW0.out; omega) (show rulesB _ _ _ from Blk.grown HS9.out.rl HG9.out fun e => by have := Option.some.inj e; have := HS9.out.lp; omega) HPA9.out HS9.out.l3 HS9.out.lp)
                clear HG9 HPA9 HS9 HS KN HND c0 c1 c2 c3 c4 f0 f1 f2 f3 f4 HT9
                generalize setsAt w9 gp (q * 8) [.int .i64 tk, .string ta, .string tv, .slice tA tn tcp, .string tf] = w10 at *
                go_wp2_with fail
                go_roundw
                case rel => exact ⟨q + 1, done ++ [p], by omega, by go_num, by rw [List.length_append, List.length_singleton, HDQ.out], HPF3, by rw [show ts.length - (q + 1) = m9 by have := HM9.out; omega]; exact HS10⟩
                case measure => simp [intOf]; omega
            · have qt : (tq.toList == [35]) = false := by rw [beq_eq_false_iff_ne, ByteArray.toList_eq]; exact htk
              rw [if_neg htk] at HPF2
              clear htk
              obtain ⟨hok2, rn, u, hru, huu0⟩ := HKO.out (by rw [beq_eq_false_iff_ne, ByteArray.toList_eq] at qt; exact qt)
              have HOPN := Lib.hid hok2
              rw [hru, knd_of huu0] at HPF2
              have HRW8 := Lib.hid ((HR.out.keep HB.out).keep HS.out.b3)
              obtain ⟨-, adr, hA1, hadr, hkd, -⟩ := HRW8.out.rul.at_ huu0
              subst hA1
              obtain ⟨bb, nb, D, hbx, -, -⟩ := HRW8.out.box
              have HBX8 := Lib.hid hbx
              have HUK := Lib.hid hkd
              have HAR := Lib.hid (show (adr.add (rn * 6)).block < w8.heap.size by rw [block_of_add]; exact hadr)
              have HRL8 := Lib.hid (show Blk _ _ _ _ from HS.out.rl)
              have HRQ := Lib.hid (show (ints RA).toArray[q]? = some (Value.int .i64 (rn : Int)) by
                have hql : q < RA.length := by rw [HRAE.out, ruleA_len]; exact HLT.out
                rw [List.getD_eq_getElem?_getD, List.getElem?_eq_getElem hql, Option.getD_some] at hru
                rw [List.getElem?_toArray, ints, List.getElem?_map, List.getElem?_eq_getElem hql, Option.map_some, hru])
              have hrn : rn < rs.length := (List.getElem?_eq_some_iff.1 huu0).1
              clear hok2 hru huu0 hbx hkd hadr HKO
              go_upto_region 21 with (fail)
              refine region_mono (X := Gh) (w0 := _) (by kernel_rfl) [2, 2, 2, 1, 2, 2, 2, 2, 1, 2, 2, 2, 1, 2, 2, 1, 1, 2, 2, 2, 2, 3, 2] [false, false, false, false, false, false, false, false, false, false, false, false, false, false, false, false, false, false, false, false, false, false, false] _ (fun gx => [.slice (some ⟨gp, 0, none⟩) ts.length ts.length, .int .i64 (↑q), .pointer (some ⟨g, 0, none⟩), .agg #[.int .i64 n.kind, .string n.text, .int .i64 n.cols, .slice A3 n.kids.length cap3], .slice A8 pq.length c8, .pointer (some ⟨g, 0, none⟩), .pointer (some ⟨g, 0, none⟩), .pointer (some ⟨g, 0, none⟩), .slice (some adr) rs.length cap, .slice (some ⟨w3.heap.size, 0, none⟩) ts.length ts.length, .int .i64 (↑q), .pointer (some ⟨w3.heap.size, q, none⟩), .int .i64 (rn : Int), .pointer (some (adr.add (rn * 6))), .pointer (some (adr.add (rn * 6))), .int .i64 u.kind, .tuple #[gx.v 136, gx.v 138], .tuple #[gx.v 136, gx.v 138], gx.v 136, gx.v 138, .pointer (some ⟨gp, q * 8, none⟩), undef, gx.v 138]) [(16, fun gx wx => PRes w8.heap.size (scrF rs (listM rs f) n pq (decide (u.kind = 2))) wx (gx.v 136) (gx.v 138))] (fun _ _ => True) Gh.zero (by kernel_rfl) (fun gx => by simp [fin, finOn, dstAt, List.range, List.range.loop, Act.put]; rfl) (fun _ => by kernel_rfl) (MonoAll.cons (fun gx wx w2 h hb => h.keep hb) MonoAll.nil) (trivial) ?_ (by kernel_rfl) ?_
              · refine ⟨fun gx wq => ?_, fun gx wq => ?_, fun gx wq => ?_, fun gx wq hB hJ hf => ?_, fun gx wq => ?_, fun gx wq => ?_, fun gx wq => ?_, fun gx wq => ?_, fun gx wq hB hJ hf => ?_, fun gx wq => ?_, fun gx wq => ?_, fun gx wq => ?_, fun gx wq hB hJ hf => ?_, fun gx wq => ?_, fun gx wq => ?_, fun gx wq hB hJ hf => ?_, fun gx wq hB hJ hf => ?_, fun gx wq => ?_, fun gx wq => ?_, fun gx wq => ?_, fun gx wq => ?_, fun gx wq => ?_, trivial⟩
                · exact Gives.pure (v := .slice (some ⟨gp, 0, none⟩) ts.length ts.length) (by kernel_rfl) rfl
                · exact Gives.pure (v := .int .i64 (↑q)) (by kernel_rfl) rfl
                · exact Gives.pure (v := .pointer (some ⟨g, 0, none⟩)) (by kernel_rfl) rfl
                · have n0 := (keep hB KN.out).cell 0
                  have n1 := (keep hB KN.out).cell 1
                  have n2 := (keep hB KN.out).cell 2
                  have n3 := (keep hB KN.out).cell 3
                  exact Gives.still (v := .agg #[.int .i64 n.kind, .string n.text, .int .i64 n.cols, .slice A3 n.kids.length cap3]) hJ (by kernel_rfl) (by simp [go_sem, evAct, n0, n1, n2, n3]) rfl
                · exact Gives.pure (v := .slice A8 pq.length c8) (by kernel_rfl) rfl
                · exact Gives.pure (v := .pointer (some ⟨g, 0, none⟩)) (by kernel_rfl) rfl
                · exact Gives.pure (v := .pointer (some ⟨g, 0, none⟩)) (by simp [go_sem, evAct]) rfl
                · exact Gives.pure (v := .pointer (some ⟨g, 0, none⟩)) (by simp [go_sem, evAct]) rfl
                · have hbx := (keep hB HBX8.out).cell 0
                  exact Gives.still (v := .slice (some adr) rs.length cap) hJ (by kernel_rfl) (by simp [go_sem, evAct, hbx]) rfl
                · exact Gives.pure (v := .slice (some ⟨w3.heap.size, 0, none⟩) ts.length ts.length) (by kernel_rfl) rfl
                · exact Gives.pure (v := .int .i64 (↑q)) (by kernel_rfl) rfl
                · exact Gives.pure (v := .pointer (some ⟨w3.heap.size, q, none⟩)) (by simp [go_sem, evAct, hq0]; try omega) rfl
                · have kr := ((keep hB HRL8.out).cell q).trans HRQ.out
                  exact Gives.still (v := .int .i64 (rn : Int)) hJ (by kernel_rfl) (by simp [go_sem, evAct, kr]) rfl
                · exact Gives.pure (v := .pointer (some (adr.add (rn * 6)))) (by simp [go_sem, evAct, hrn]; try omega) rfl
                · exact Gives.pure (v := .pointer (some (adr.add (rn * 6)))) (by simp [go_sem, evAct]) rfl
                · have ku := (hB.cell (p := adr.add (rn * 6)) HAR.out).trans HUK.out
                  exact Gives.still (v := .int .i64 u.kind) hJ (by kernel_rfl) (by simp [go_sem, evAct, ku]) rfl
                · refine Gives.call (f := 67) (args := #[.pointer (some ⟨g, 0, none⟩), .agg #[.int .i64 n.kind, .string n.text, .int .i64 n.cols, .slice A3 n.kids.length cap3], .slice A8 pq.length c8, .int .i64 u.kind]) (w' := wq) (by kernel_rfl) ((scripts_any g (some adr) cap rs f HLL.out n _ pq A8 c8 u.kind wq (HRW8.out.keep hB) (HND.out.keep hB) (HP8.out.keep hB) HFN.out.1 HOPN.out (by have := HCN.out; have := HCN2.out; omega) (by have := HPS.out; have := HPL.out; have := HCN2.out; omega)).mono ?_)
                  rintro e wz hm
                  obtain ⟨c9, f9, rfl, hres, hb⟩ := hm.res hB.size
                  exact ⟨_, rfl, ((gx.setV 136 c9).setV 138 f9), rfl, (KeepsV.of_same ⟨.inr (.inr rfl), .inr (.inr rfl), .inr (.inr rfl), .inr (.inr rfl), .inr (.inr rfl), .inr (.inr rfl), .inr (.inr rfl), .inr (.inr rfl), .inr (.inr rfl), .inr (.inr rfl), .inr (.inr rfl), .inr (.inr rfl), .inr (.inr rfl), .inr (.inr rfl), .inr (.inr rfl), .inr (.inr rfl), .inl rfl, (by first | exact .inr (.inr rfl) | exact .inr (.inl (by kernel_rfl))), (by first | exact .inr (.inr rfl) | exact .inr (.inl (by kernel_rfl))), (by first | exact .inr (.inr rfl) | exact .inr (.inl (by kernel_rfl))), .inr (.inr rfl), .inr (.inr rfl), (by first | exact .inr (.inr rfl) | exact .inr (.inl (by kernel_rfl))), trivial⟩), hb, ⟨hres, trivial⟩, trivial⟩
                · exact Gives.pure (v := .tuple #[gx.v 136, gx.v 138]) (by kernel_rfl) rfl
                · exact Gives.pure (v := gx.v 136) (by kernel_rfl) rfl
                · exact Gives.pure (v := gx.v 138) (by kernel_rfl) rfl
                · exact Gives.pure (v := .pointer (some ⟨gp, q * 8, none⟩)) (by simp [go_sem, evAct, hq0]; try omega) rfl
                · exact Gives.pure (v := gx.v 138) (by kernel_rfl) rfl
              · refine fun gx wq hB hJ hf => ?_
                dsimp only [FactsAll] at hf
                change wpOps _ _ _ [21] _ _
                obtain ⟨hres, -⟩ := hf
                have HS9 := Lib.hid (HS.out.keep hB)
                have HRES := Lib.hid hres
                have HGW := Lib.hid (show gp < w8.heap.size from HS.out.pa.choose_spec.1.lt)
                have HLW := Lib.hid (show w.heap.size < gp from by have := HS.out.l3; have := HS.out.lp; have := HW0.out; omega)
                clear hres hB hJ HS KN HND HRW8 HBX8 HRL8 HP8
                generalize gx.v 136 = v9 at *
                generalize gx.v 138 = f9 at *
                clear gx
                generalize wq = w9 at *
                have hqd : q < (done ++ List.replicate (ts.length - q) zerP).length := by rw [List.length_append, List.length_replicate, HDQ.out]; have := HLT.out; omega
                obtain ⟨uu, huu⟩ := HS9.out.pa.cells hqd
                have c0 : w9.cell? ⟨gp, q * 8, none⟩ = some (uu 0) := (huu 0 (by omega)).1
                have f0 : w9.frozen? ⟨gp, q * 8, none⟩ = false := (huu 0 (by omega)).2
                have c1 : w9.cell? ⟨gp, q * 8 + 1, none⟩ = some (uu 1) := (huu 1 (by omega)).1
                have f1 : w9.frozen? ⟨gp, q * 8 + 1, none⟩ = false := (huu 1 (by omega)).2
                have c2 : w9.cell? ⟨gp, q * 8 + 2, none⟩ = some (uu 2) := (huu 2 (by omega)).1
                have f2 : w9.frozen? ⟨gp, q * 8 + 2, none⟩ = false := (huu 2 (by omega)).2
                have c3 : w9.cell? ⟨gp, q * 8 + 3, none⟩ = some (uu 3) := (huu 3 (by omega)).1
                have f3 : w9.frozen? ⟨gp, q * 8 + 3, none⟩ = false := (huu 3 (by omega)).2
                have c4 : w9.cell? ⟨gp, q * 8 + 4, none⟩ = some (uu 4) := (huu 4 (by omega)).1
                have f4 : w9.frozen? ⟨gp, q * 8 + 4, none⟩ = false := (huu 4 (by omega)).2
                have c5 : w9.cell? ⟨gp, q * 8 + 5, none⟩ = some (uu 5) := (huu 5 (by omega)).1
                have f5 : w9.frozen? ⟨gp, q * 8 + 5, none⟩ = false := (huu 5 (by omega)).2
                have c6 : w9.cell? ⟨gp, q * 8 + 6, none⟩ = some (uu 6) := (huu 6 (by omega)).1
                have f6 : w9.frozen? ⟨gp, q * 8 + 6, none⟩ = false := (huu 6 (by omega)).2
                have c7 : w9.cell? ⟨gp, q * 8 + 7, none⟩ = some (uu 7) := (huu 7 (by omega)).1
                have f7 : w9.frozen? ⟨gp, q * 8 + 7, none⟩ = false := (huu 7 (by omega)).2
                cases hop : scrF rs (listM rs f) n pq (decide (u.kind = 2)) with
                | bad er p =>
                  have HR2 := HRES.out
                  rw [hop] at HR2
                  obtain ⟨rfl, gf, rfl, hff⟩ := HR2
                  have HFF := Lib.hid hff
                  have HO2 := Lib.hid (show listM rs (f + 1) items path k = .bad er p by rw [HO3.out, HPF2.out.bad hop]; rfl)
                  have HG9 := Lib.hid (show w9.grownBy (((((((((w9).setCell ⟨gp, q * 8, none⟩ (.int .i64 0)).setCell ⟨gp, q * 8 + 1, none⟩ (.string ⟨#[]⟩)).setCell ⟨gp, q * 8 + 2, none⟩ (.string ⟨#[]⟩)).setCell ⟨gp, q * 8 + 3, none⟩ (.slice none 0 0)).setCell ⟨gp, q * 8 + 4, none⟩ (.string ⟨#[]⟩)).setCell ⟨gp, q * 8 + 5, none⟩ (.slice none 0 0)).setCell ⟨gp, q * 8 + 6, none⟩ (.string ⟨#[]⟩)).setCell ⟨gp, q * 8 + 7, none⟩ (.string ⟨#[]⟩)) (some gp) from setsAt_grown [.int .i64 0, .string ⟨#[]⟩, .string ⟨#[]⟩, .slice none 0 0, .string ⟨#[]⟩, .slice none 0 0, .string ⟨#[]⟩, .string ⟨#[]⟩] w9 gp (q * 8))
                  refine wpOps_skip (o := _) rfl rfl (w' := ((((((((w9).setCell ⟨gp, q * 8, none⟩ (.int .i64 0)).setCell ⟨gp, q * 8 + 1, none⟩ (.string ⟨#[]⟩)).setCell ⟨gp, q * 8 + 2, none⟩ (.string ⟨#[]⟩)).setCell ⟨gp, q * 8 + 3, none⟩ (.slice none 0 0)).setCell ⟨gp, q * 8 + 4, none⟩ (.string ⟨#[]⟩)).setCell ⟨gp, q * 8 + 5, none⟩ (.slice none 0 0)).setCell ⟨gp, q * 8 + 6, none⟩ (.string ⟨#[]⟩)).setCell ⟨gp, q * 8 + 7, none⟩ (.string ⟨#[]⟩)) (by simp [go_sem, c0, c1, c2, c3, c4, c5, c6, c7, f0, f1, f2, f3, f4, f5, f6, f7]) ?_
                  refine wpOps_done ?_
                  clear hff HRES hop hqd huu c0 c1 c2 c3 c4 c5 c6 c7 f0 f1 f2 f3 f4 f5 f6 f7
                  generalize ((((((((w9).setCell ⟨gp, q * 8, none⟩ (.int .i64 0)).setCell ⟨gp, q * 8 + 1, none⟩ (.string ⟨#[]⟩)).setCell ⟨gp, q * 8 + 2, none⟩ (.string ⟨#[]⟩)).setCell ⟨gp, q * 8 + 3, none⟩ (.slice none 0 0)).setCell ⟨gp, q * 8 + 4, none⟩ (.string ⟨#[]⟩)).setCell ⟨gp, q * 8 + 5, none⟩ (.slice none 0 0)).setCell ⟨gp, q * 8 + 6, none⟩ (.string ⟨#[]⟩)).setCell ⟨gp, q * 8 + 7, none⟩ (.string ⟨#[]⟩) = w10 at *
                  have HB10 := Lib.hid (HB.out.trans ((HS9.out.b3.grown HG9.out HS9.out.b3.size fun r e => by have := Option.some.inj e; have := HS9.out.l3; have := HS9.out.lp; omega).mono HB.out.size))
                  have K10 := Lib.hid (HS9.out.k0.grown HG9.out fun e => by have := Option.some.inj e; have := HLW.out; omega)
                  have HF10 := Lib.hid (HFF.out.grown HG9.out fun hb => by have := HGW.out; omega)
                  clear HG9 HS9 HFF
                  have k0c := fun i => K10.out.cell i
                  have k0f := fun i => K10.out.frozen i
                  go_wp2_with fail
                  have KR := Lib.hid (set5 K10.out (.int .i64 0) (.string ⟨#[]⟩) (.string ⟨#[]⟩) (.slice none 0 0) (.string ⟨#[]⟩))
                  have HB5 := Lib.hid (below5 (g := w.heap.size) HB10.out HB10.out.size (by omega) (.int .i64 0) (.string ⟨#[]⟩) (.string ⟨#[]⟩) (.slice none 0 0) (.string ⟨#[]⟩))
                  have HG5 := Lib.hid (grown5 w10 (w.heap.size) (.int .i64 0) (.string ⟨#[]⟩) (.string ⟨#[]⟩) (.slice none 0 0) (.string ⟨#[]⟩))
                  generalize ((((w10.setCell ⟨w.heap.size, 0, none⟩ (.int .i64 0)).setCell ⟨w.heap.size, 1, none⟩ (.string ⟨#[]⟩)).setCell ⟨w.heap.size, 2, none⟩ (.string ⟨#[]⟩)).setCell ⟨w.heap.size, 3, none⟩ (.slice none 0 0)).setCell ⟨w.heap.size, 4, none⟩ (.string ⟨#[]⟩) = w9 at *
                  have r0 := KR.out.cell 0
                  have r1 := KR.out.cell 1
                  have r2 := KR.out.cell 2
                  have r3 := KR.out.cell 3
                  have r4 := KR.out.cell 4
                  exact bodyPost_ret (v := .tuple #[.agg #[.int .i64 0, .string ⟨#[]⟩, .string ⟨#[]⟩, .slice none 0 0, .string ⟨#[]⟩], .pointer (some ⟨gf, 0, none⟩)]) (by simp [results, Tryz.results37, go_sem, r0, r1, r2, r3, r4]) rfl (show MeaP _ _ _ _ by rw [HO2.out]; exact ⟨⟨gf, rfl, (HF10.out.grown HG5.out fun hb => by have := HLW.out; have := HGW.out; omega).any fun b _ hb => by have := HLW.out; have := HGW.out; omega⟩, HB5.out⟩)
                | ok p =>
                  have HR2 := HRES.out
                  rw [hop] at HR2
                  obtain ⟨cc, rfl, rfl, hpt⟩ := HR2
                  obtain ⟨tk, ta, tv, tf, tA, tn, tcp, sA, scp, rfl, hp1⟩ := hpt
                  have HPT := Lib.hid (show PrtAt (fun b => gp < b) w9 p #[.int .i64 tk, .string ta, .string tv, .slice tA tn tcp, .string tf, .slice sA p.scr.length scp, .string p.fin, .string p.vr] from PrtAt.any (ok := fun b => w8.heap.size ≤ b) ⟨tk, ta, tv, tf, tA, tn, tcp, sA, scp, rfl, hp1⟩ fun b _ h => by have := HGW.out; omega)
                  have HPF3 := Lib.hid (HPF2.out.next hop)
                  obtain ⟨m9, hm9⟩ : ∃ m9, ts.length - q = m9 + 1 := ⟨ts.length - q - 1, by have := HLT.out; omega⟩
                  have HM9 := Lib.hid hm9
                  have HG9 := Lib.hid (show w9.grownBy (((((((((w9).setCell ⟨gp, q * 8, none⟩ (.int .i64 tk)).setCell ⟨gp, q * 8 + 1, none⟩ (.string ta)).setCell ⟨gp, q * 8 + 2, none⟩ (.string tv)).setCell ⟨gp, q * 8 + 3, none⟩ (.slice tA tn tcp)).setCell ⟨gp, q * 8 + 4, none⟩ (.string tf)).setCell ⟨gp, q * 8 + 5, none⟩ (.slice sA p.scr.length scp)).setCell ⟨gp, q * 8 + 6, none⟩ (.string p.fin)).setCell ⟨gp, q * 8 + 7, none⟩ (.string p.vr)) (some gp) from setsAt_grown [.int .i64 tk, .string ta, .string tv, .slice tA tn tcp, .string tf, .slice sA p.scr.length scp, .string p.fin, .string p.vr] w9 gp (q * 8))
                  have HPA9 := Lib.hid (show PArr (fun b => gp < b) (((((((((w9).setCell ⟨gp, q * 8, none⟩ (.int .i64 tk)).setCell ⟨gp, q * 8 + 1, none⟩ (.string ta)).setCell ⟨gp, q * 8 + 2, none⟩ (.string tv)).setCell ⟨gp, q * 8 + 3, none⟩ (.slice tA tn tcp)).setCell ⟨gp, q * 8 + 4, none⟩ (.string tf)).setCell ⟨gp, q * 8 + 5, none⟩ (.slice sA p.scr.length scp)).setCell ⟨gp, q * 8 + 6, none⟩ (.string p.fin)).setCell ⟨gp, q * 8 + 7, none⟩ (.string p.vr)) gp ((done ++ List.replicate (ts.length - q) zerP).set q p) from HS9.out.pa.putP hqd HPT.out (fun b hb => by omega))
                  rw [HM9.out, ← HDQ.out, set_done, HDQ.out] at HPA9
                  refine wpOps_skip (o := _) rfl rfl (w' := ((((((((w9).setCell ⟨gp, q * 8, none⟩ (.int .i64 tk)).setCell ⟨gp, q * 8 + 1, none⟩ (.string ta)).setCell ⟨gp, q * 8 + 2, none⟩ (.string tv)).setCell ⟨gp, q * 8 + 3, none⟩ (.slice tA tn tcp)).setCell ⟨gp, q * 8 + 4, none⟩ (.string tf)).setCell ⟨gp, q * 8 + 5, none⟩ (.slice sA p.scr.length scp)).setCell ⟨gp, q * 8 + 6, none⟩ (.string p.fin)).setCell ⟨gp, q * 8 + 7, none⟩ (.string p.vr)) (by simp [go_sem, c0, c1, c2, c3, c4, c5, c6, c7, f0, f1, f2, f3, f4, f5, f6, f7]) ?_
                  refine wpOps_done ?_
                  clear hp1 HRES hop hqd huu hm9 c0 c1 c2 c3 c4 c5 c6 c7 f0 f1 f2 f3 f4 f5 f6 f7
                  generalize ((((((((w9).setCell ⟨gp, q * 8, none⟩ (.int .i64 tk)).setCell ⟨gp, q * 8 + 1, none⟩ (.string ta)).setCell ⟨gp, q * 8 + 2, none⟩ (.string tv)).setCell ⟨gp, q * 8 + 3, none⟩ (.slice tA tn tcp)).setCell ⟨gp, q * 8 + 4, none⟩ (.string tf)).setCell ⟨gp, q * 8 + 5, none⟩ (.slice sA p.scr.length scp)).setCell ⟨gp, q * 8 + 6, none⟩ (.string p.fin)).setCell ⟨gp, q * 8 + 7, none⟩ (.string p.vr) = w10 at *
                  have HS10 := Lib.hid (LiS.mk (w := w) (w3 := w3) (HS9.out.b3.grown HG9.out HS9.out.b3.size fun r e => by have := Option.some.inj e; have := HS9.out.l3; have := HS9.out.lp; omega) (HS9.out.k0.grown HG9.out fun e => by have := Option.some.inj e; have := HLW.out; omega) (show rulesB _ _ _ from Blk.grown HS9.out.rl HG9.out fun e => by have := Option.some.inj e; have := HS9.out.lp; omega) HPA9.out HS9.out.l3 HS9.out.lp)
                  clear HG9 HPA9 HS9 HPT
                  go_wp2_with fail
                  go_roundw
                  case rel => exact ⟨q + 1, done ++ [p], by omega, by go_num, by rw [List.length_append, List.length_singleton, HDQ.out], HPF3, by rw [show ts.length - (q + 1) = m9 by have := HM9.out; omega]; exact HS10⟩
                  case measure => simp [intOf]; omega
          · obtain rfl : q = l.length := by omega
            have hdl : done.length = ts.length := by rw [hdq, HTL.out]
            rw [parts_end] at HPF
            have HO4 := Lib.hid (show listM rs (f + 1) items path k = .ok (trmR rs done x ts.length) by rw [HO3.out, HPF.out.end]; rfl)
            rw [show ts.length - l.length = 0 by rw [HTL.out]; omega, List.replicate_zero, List.append_nil] at HS
            have HDL := Lib.hid hdl
            have y0 := (HS.out.b3.cell (p := adR) hadl9).trans x0
            have y1 := (HS.out.b3.cell (p := ⟨adR.block, adR.off + 1, none⟩) hadl9).trans x1
            have y2 := (HS.out.b3.cell (p := ⟨adR.block, adR.off + 2, none⟩) hadl9).trans x2
            have HTC := Lib.hid (term_any (fun b => w2.heap.size ≤ b) (fun b => gp < b ∧ b < wr.heap.size) g A cap rs ⟨gp, 0, none⟩ done ts.length (by omega) (by have := HTN.out; omega) (sizeR x) x 0 ts.length (rdC x.rule x.at_ A9 x.kids.length cap9) wr (Nat.le_refl _) HOKX.out ((HR.out.keep HB.out).keep HS.out.b3) (HX9.out.keep HS.out.b3) (HS.out.pa.any (fun b hb h => ⟨h, hb⟩)).at_ (fun b hb => hb.2) (by omega))
            rw [hdl] at HTC
            clear hdl hdq
            go_wp2_with fail
            refine HTC.out.mono ?_
            rintro e w8 ⟨c8, rfl, htm, hb⟩
            obtain ⟨tk, ta, tv, tA, tn, tcp, tf, rfl⟩ := htm.ext
            have HTM := Lib.hid (htm.any (ok' := fun b => w.heap.size < b) fun b _ h => by have := HW0.out; have := HS.out.b3.size; have := HS.out.l3; have := HS.out.lp; rcases h with h | h <;> omega)
            have HB8 := Lib.hid (HB.out.trans ((HS.out.b3.trans (hb.mono HS.out.b3.size)).mono HB.out.size))
            have K8 := Lib.hid (keep hb HS.out.k0)
            have k8c := fun i => K8.out.cell i
            have k8f := fun i => K8.out.frozen i
            clear htm hb HTC HS y0 y1 y2
            go_wp2_with fail
            have KR := Lib.hid (set5 K8.out (.int .i64 tk) (.string ta) (.string tv) (.slice tA tn tcp) (.string tf))
            have HB5 := Lib.hid (below5 (g := w.heap.size) HB8.out HB8.out.size (by omega) (.int .i64 tk) (.string ta) (.string tv) (.slice tA tn tcp) (.string tf))
            have HG5 := Lib.hid (grown5 w8 (w.heap.size) (.int .i64 tk) (.string ta) (.string tv) (.slice tA tn tcp) (.string tf))
            generalize ((((w8.setCell ⟨w.heap.size, 0, none⟩ (.int .i64 tk)).setCell ⟨w.heap.size, 1, none⟩ (.string ta)).setCell ⟨w.heap.size, 2, none⟩ (.string tv)).setCell ⟨w.heap.size, 3, none⟩ (.slice tA tn tcp)).setCell ⟨w.heap.size, 4, none⟩ (.string tf) = w9 at *
            have r0 := KR.out.cell 0
            have r1 := KR.out.cell 1
            have r2 := KR.out.cell 2
            have r3 := KR.out.cell 3
            have r4 := KR.out.cell 4
            exact bodyPost_ret (v := .tuple #[.agg #[.int .i64 tk, .string ta, .string tv, .slice tA tn tcp, .string tf], .pointer none]) (by simp [results, Tryz.results37, go_sem, r0, r1, r2, r3, r4]) rfl (show MeaP _ _ _ _ by rw [HO4.out]; exact ⟨⟨_, rfl, (HTM.out.grown HG5.out (fun b _ hb e => by have := Option.some.inj e; omega) (fun b _ hb => Nat.le_of_lt hb))⟩, HB5.out⟩)
end Go.Proofs.YthpioplpfmlgcaaGreatDoor.El
