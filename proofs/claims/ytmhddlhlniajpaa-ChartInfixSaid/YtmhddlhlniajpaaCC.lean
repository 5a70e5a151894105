/- Comparing two readings: the program's stack. -/
import Derived.Test.YtmhddlhlniajpaaCR
namespace Go.Proofs.Ytmhddlhlniajpaa
open Go.RowKit
theorem least_exists {P : Nat → Prop} (h : ∃ n, P n) : ∃ m, P m ∧ ∀ n, P n → m ≤ n := by
  obtain ⟨n, hn⟩ := h
  induction n using Nat.strongRecOn with
  | _ n ih =>
    by_cases h : ∃ k, k < n ∧ P k
    · obtain ⟨k, hk, hp⟩ := h
      exact ih k hk hp
    · exact ⟨n, hn, fun k hp => Nat.le_of_not_lt fun hk => h ⟨k, hk, hp⟩⟩
open Classical in
noncomputable def leastN (P : Nat → Prop) : Nat := if h : ∃ n, P n then Classical.choose (least_exists h) else 0
theorem leastN_le {P : Nat → Prop} {n : Nat} (h : P n) : leastN P ≤ n := by
  unfold leastN
  rw [dif_pos ⟨n, h⟩]
  exact (Classical.choose_spec (least_exists ⟨n, h⟩)).2 n h
theorem leastN_at {P : Nat → Prop} (h : ∃ n, P n) : P (leastN P) := by
  unfold leastN
  rw [dif_pos h]
  exact (Classical.choose_spec (least_exists h)).1
/-- an entry of the stack: two addresses, and the readings there -/
abbrev Ent := Addr × Addr × Rd × Rd
def entC (e : Ent) : List Value := [.pointer (some e.1), .pointer (some e.2.1)]
def pairsE (es : List Ent) : List (Rd × Rd) := es.map fun e => (e.2.2.1, e.2.2.2)
def sumE (es : List Ent) : Nat := sizeL (es.map fun e => e.2.2.1)
def StkAt (w : World) (B : Nat) (v : Value) (es : List Ent) : Prop := w.ownsRow B 71 2 v es.length (es.reverse.flatMap entC)
def EntsAt (W : Nat) (w : World) (es : List Ent) : Prop := ∀ e ∈ es, e.1.block < W ∧ e.2.1.block < W ∧ PtAt (fun b => b < W) w e.1 e.2.2.1 ∧ PtAt (fun b => b < W) w e.2.1 e.2.2.2
theorem PtAt.map_ {W : Nat} {w w' : World} (hs : w.heap.size ≤ w'.heap.size) (hc : ∀ q : Addr, q.block < W → w'.cell? q = w.cell? q) {p : Addr} {x : Rd} (hp : p.block < W) (h : PtAt (fun b => b < W) w p x) : PtAt (fun b => b < W) w' p x := by
  obtain ⟨h0, A, cap, d0, d1, d2, h1, h2, h3⟩ := h
  exact ⟨Nat.lt_of_lt_of_le h0 hs, A, cap, (hc _ hp).trans d0, (hc ⟨p.block, p.off + 1, none⟩ hp).trans d1, (hc ⟨p.block, p.off + 2, none⟩ hp).trans d2, h1, h2, h3.map hs (fun _ _ h => h) fun q _ hq => hc q hq⟩
theorem EntsAt.map {W : Nat} {w w' : World} {es : List Ent} (h : EntsAt W w es) (hs : w.heap.size ≤ w'.heap.size) (hc : ∀ q : Addr, q.block < W → w'.cell? q = w.cell? q) : EntsAt W w' es := fun e he => by
  obtain ⟨h1, h2, h3, h4⟩ := h e he
  exact ⟨h1, h2, h3.map_ hs hc h1, h4.map_ hs hc h2⟩
theorem EntsAt.below {W : Nat} {w w' : World} {es : List Ent} (h : EntsAt W w es) (hb : Below w.heap.size w w') (hW : W ≤ w.heap.size) : EntsAt W w' es := h.map hb.size fun q hq => hb.cell (by omega)
theorem EntsAt.grown {W : Nat} {w w' : World} {row : Option Nat} {es : List Ent} (h : EntsAt W w es) (hg : w.grownBy w' row) (hW : W ≤ w.heap.size) (hr : ∀ g, row = some g → W ≤ g) : EntsAt W w' es := h.map hg.size fun q hq => World.cell?_of_block (hg.block q.block (by omega) (fun e => by have := hr _ e.symm; omega))
theorem flat2 : ∀ (l : List Ent) (e : Ent) (j : Nat), j < 2 → ((l ++ [e]).flatMap entC)[l.length * 2 + j]? = (entC e)[j]? := by
  intro l e j hj
  have hl : (l.flatMap entC).length = l.length * 2 := by
    induction l with
    | nil => rfl
    | cons a l ih => rw [List.flatMap_cons, List.length_append, ih]; simp [entC]; omega
  rw [List.flatMap_append, List.getElem?_append_right (by omega), hl]
  simp
theorem len2 (l : List Ent) : (l.flatMap entC).length = l.length * 2 := by
  induction l with
  | nil => rfl
  | cons a l ih => rw [List.flatMap_cons, List.length_append, ih]; simp [entC]; omega
/-- the top of the stack, and what is below it -/
theorem StkAt.top {w : World} {B : Nat} {v : Value} {e : Ent} {es : List Ent} (h : StkAt w B v (e :: es)) : ∃ g cap, v = .slice (some ⟨g, 0, none⟩) (es.length + 1) cap ∧ B ≤ g ∧ es.length + 1 ≤ cap ∧ w.cell? ⟨g, es.length * 2, none⟩ = some (.pointer (some e.1)) ∧ w.cell? ⟨g, es.length * 2 + 1, none⟩ = some (.pointer (some e.2.1)) ∧ StkAt w B (.slice (some ⟨g, 0, none⟩) es.length cap) es := by
  obtain ⟨hl, ⟨rfl, h0⟩ | ⟨g, cap, cur, rfl, hg, hb, hn, hc, hs, ht⟩⟩ := h
  · simp at h0
  · have hb' : Blk w g 71 cur := hb
    have hcell : ∀ j, j < 2 → w.cell? ⟨g, es.length * 2 + j, none⟩ = (entC e)[j]? := fun j hj => by
      rw [hb'.cell]
      have h3 := flat2 es.reverse e j hj
      rw [List.length_reverse, ← List.reverse_cons, ← ht, List.getElem?_take] at h3
      split at h3
      · rw [← Array.getElem?_toList]; exact h3
      · rw [← h3]; rename_i hlt; simp only [List.length_cons] at hlt; omega
    refine ⟨g, cap, rfl, hg, hn, hcell 0 (by omega), hcell 1 (by omega), ⟨by rw [len2, List.length_reverse], .inr ⟨g, cap, cur, rfl, hg, hb, by simp at hn; omega, hc, hs, ?_⟩⟩⟩
    have h4 := congrArg (List.take (es.length * 2)) ht
    rw [List.take_take, List.reverse_cons, List.flatMap_append, List.take_append_of_le_length (by rw [len2, List.length_reverse]; omega), List.take_of_length_le (l := es.reverse.flatMap entC) (by rw [len2, List.length_reverse]; omega)] at h4
    rw [← h4]
    congr 1
    simp only [List.length_cons]
    omega
theorem StkAt.one {w : World} (B : Nat) (hB : B ≤ w.heap.size) (e : Ent) : StkAt (w.alloc (.cells #[.pointer (some e.1), .pointer (some e.2.1)] 71)) B (.slice (some ⟨w.heap.size, 0, none⟩) 1 1) [e] :=
  ⟨by simp [entC], .inr ⟨w.heap.size, 1, _, rfl, hB, Blk.new w _ _, Nat.le_refl _, by unfold maxLen; omega, rfl, by simp [entC]⟩⟩
theorem StkAt.push {w' : World} {B : Nat} {v' : Value} {e : Ent} {es : List Ent} (h : w'.ownsRow B 71 2 v' (es.length + 1) (es.reverse.flatMap entC ++ entC e)) : StkAt w' B v' (e :: es) := by
  unfold StkAt
  rw [List.reverse_cons, List.flatMap_append, List.length_cons]
  simpa using h
theorem StkAt.len {w : World} {B : Nat} {v : Value} {es : List Ent} (h : StkAt w B v es) : ∃ A cap, v = .slice A es.length cap := by
  obtain ⟨_, ⟨rfl, h0⟩ | ⟨g, cap, cur, rfl, _⟩⟩ := h
  · exact ⟨none, 0, by rw [h0]⟩
  · exact ⟨_, cap, rfl⟩
theorem sizeL_append (a b : List Rd) : sizeL (a ++ b) = sizeL a + sizeL b := by
  induction a with
  | nil => simp [sizeL]
  | cons x a ih => simp only [List.cons_append, sizeL, ih]; omega
theorem sum_len (es : List Ent) : es.length ≤ sumE es := by
  induction es with
  | nil => simp
  | cons e es ih =>
    have := size_pos e.2.2.1
    unfold sumE at *
    simp only [List.map_cons, sizeL, List.length_cons]
    omega
theorem head_zero {x y : Rd} (h : headR x y = 0) : x.kids.length = y.kids.length := by
  by_cases h0 : signI x.rule y.rule = 0
  · by_cases h1 : signI x.kids.length y.kids.length = 0
    · have := sign_zero h1; omega
    · rw [head_len h0 h1] at h; exact absurd h h1
  · rw [head_rule h0] at h; exact absurd h h0
theorem size_drop (ks : List Rd) (k : Nat) : sizeL (ks.drop k) ≤ sizeL ks := by
  have h := sizeL_append (ks.take k) (ks.drop k)
  rw [List.take_append_drop] at h
  omega
theorem RdsAt.blk {ok : Nat → Prop} {w : World} {A' : Addr} {ks : List Rd} (h : RdsAt ok w (some A') ks) {k : Nat} {x : Rd} (hk : ks[k]? = some x) : A'.block < w.heap.size ∧ ok A'.block := by
  obtain ⟨ad, h1, h2, h3, _⟩ := h k x hk
  obtain rfl := Option.some.inj h1
  exact ⟨h2, h3⟩
/-- what the loop keeps: s is the number of parts that are left -/
def StkP (w : World) (W B : Nat) (c : Int) (s : Nat) (v : Value) (wr : World) : Prop := ∃ es, StkAt wr B v es ∧ EntsAt W wr es ∧ stackR (pairsE es) = c ∧ sumE es = s ∧ Below w.heap.size w wr ∧ B ≤ wr.heap.size
theorem info_two : (Try.prog.info? 71).map (fun i => (i.zero, i.size, i.bytes)) = some (some (.agg #[.pointer none, .pointer none]), 2, 16) := by kernel_rfl
set_option maxRecDepth 100000 in
set_option maxHeartbeats 4000000 in
theorem pcmp_any (ok ok' : Nat → Prop) (x y : Rd) (c d : Array Value) (w : World) (hsz : sizeR x ≤ 1000000) (hR : RdAt ok w x c) (hS : RdAt ok' w y d) : Calls Try.prog 23 #[.agg c, .agg d] w fun e w' => e = .returned (.int .i64 (cmpR x y)) ∧ Below w.heap.size w w' := by
  obtain ⟨i0, hi, hz0, hz1, hz2⟩ := info_parts info_two
  obtain ⟨A, cap, rfl, hl, hc, hk⟩ := hR.form
  obtain ⟨B, cap2, rfl, hm, hd, hk2⟩ := hS.form
  have hb1 := bel_alloc w (.cells (rdC x.rule x.at_ A x.kids.length cap) 34)
  have hb2 := bel_alloc (w.alloc (.cells (rdC x.rule x.at_ A x.kids.length cap) 34)) (.cells (rdC y.rule y.at_ B y.kids.length cap2) 34)
  have hs2 : ((w.alloc (.cells (rdC x.rule x.at_ A x.kids.length cap) 34)).alloc (.cells (rdC y.rule y.at_ B y.kids.length cap2) 34)).heap.size = w.heap.size + 1 + 1 := by rw [World.size_alloc, World.size_alloc]
  have K1 := keep hb2 (Blk.new w 34 (rdC x.rule x.at_ A x.kids.length cap))
  have K2 : Blk ((w.alloc (.cells (rdC x.rule x.at_ A x.kids.length cap) 34)).alloc (.cells (rdC y.rule y.at_ B y.kids.length cap2) 34)) (w.heap.size + 1) 34 (rdC y.rule y.at_ B y.kids.length cap2) := by have := Blk.new (w.alloc (.cells (rdC x.rule x.at_ A x.kids.length cap) 34)) 34 (rdC y.rule y.at_ B y.kids.length cap2); rw [World.size_alloc] at this; exact this
  have HK := ((hk.keep hb1).keep hb2).any (ok' := fun b => b < w.heap.size + 1 + 1) fun b h _ => by rw [hs2] at h; exact h
  have HL := ((hk2.keep hb1).keep hb2).any (ok' := fun b => b < w.heap.size + 1 + 1) fun b h _ => by rw [hs2] at h; exact h
  have HB := hb1.trans (hb2.mono hb1.size)
  have HE : EntsAt (w.heap.size + 1 + 1) ((w.alloc (.cells (rdC x.rule x.at_ A x.kids.length cap) 34)).alloc (.cells (rdC y.rule y.at_ B y.kids.length cap2) 34)) [(⟨w.heap.size, 0, none⟩, ⟨w.heap.size + 1, 0, none⟩, x, y)] := fun e he => by
    obtain rfl := List.mem_singleton.1 he
    exact ⟨by show w.heap.size < _; omega, by show w.heap.size + 1 < _; omega, ⟨K1.lt, A, cap, K1.cell 0, K1.cell 1, K1.cell 2, hl, hc, HK⟩, ⟨K2.lt, B, cap2, K2.cell 0, K2.cell 1, K2.cell 2, hm, hd, HL⟩⟩
  clear hR hS hk hk2 hb1 hb2 hl hc hm hd K1 K2 HK HL
  have HE := Lib.hid HE
  have HB := Lib.hid HB
  have HS2 := Lib.hid hs2
  have HSZ := Lib.hid hsz
  clear hs2 hsz
  go_enter Try.func23, Try.ntmps23
  go_wp2_with fail
  generalize (w.alloc (.cells #[.int .i64 x.rule, .int .i64 x.at_, .slice A x.kids.length cap] 34)).alloc (.cells #[.int .i64 y.rule, .int .i64 y.at_, .slice B y.kids.length cap2] 34) = w1 at *
  have hba := bel_alloc w1 (.cells #[.pointer (some ⟨w.heap.size, 0, none⟩), .pointer (some ⟨w.heap.size + 1, 0, none⟩)] 71)
  have HK := Lib.hid (StkAt.one (w := w1) (w.heap.size + 1 + 1) (by rw [HS2.out]; exact Nat.le_refl _) (⟨w.heap.size, 0, none⟩, ⟨w.heap.size + 1, 0, none⟩, x, y))
  rw [HS2.out] at HK
  have HE := Lib.hid (HE.out.below hba (by rw [HS2.out]; exact Nat.le_refl _))
  have HB := Lib.hid (HB.out.trans (hba.mono HB.out.size))
  have HW := Lib.hid (show w.heap.size + 1 + 1 ≤ (w1.alloc (.cells #[.pointer (some ⟨w.heap.size, 0, none⟩), .pointer (some ⟨w.heap.size + 1, 0, none⟩)] 71)).heap.size by rw [World.size_alloc, HS2.out]; omega)
  clear hba
  generalize w1.alloc (.cells #[.pointer (some ⟨w.heap.size, 0, none⟩), .pointer (some ⟨w.heap.size + 1, 0, none⟩)] 71) = w2 at *
  have HP := Lib.hid (show StkP w (w.heap.size + 1 + 1) (w.heap.size + 1 + 1) (cmpR x y) (sizeR x) _ w2 from ⟨_, HK.out, HE.out, by simp only [pairsE, List.map_cons, List.map_nil, stackR]; split <;> simp_all, by simp [sumE, sizeL], HB.out, HW.out⟩)
  clear HK HE HB HW
  go_loopw [5] (fun v wr => ∃ s, s ≤ 1000000 ∧ Hid (StkP w (w.heap.size + 1 + 1) (w.heap.size + 1 + 1) (cmpR x y) s v wr)) (fun v wr => leastN fun s => s ≤ 1000000 ∧ StkP w (w.heap.size + 1 + 1) (w.heap.size + 1 + 1) (cmpR x y) s v wr)
  case atStart => exact ⟨_, HSZ.out, HP⟩
  case round =>
    clear HP
    obtain ⟨s0, hs0, hp0⟩ := hrel
    obtain ⟨hs, es, hK, hE, hC, hS, hB, hW⟩ := leastN_at (P := fun s => s ≤ 1000000 ∧ StkP w (w.heap.size + 1 + 1) (w.heap.size + 1 + 1) (cmpR x y) s u5 wr) ⟨s0, hs0, hp0.out⟩
    clear s0 hs0 hp0
    have HS := Lib.hid hS
    have HC := Lib.hid hC
    have HB := Lib.hid hB
    have HW := Lib.hid hW
    have HSM := Lib.hid hs
    clear hS hC hB hW hs
    cases es with
    | nil =>
      obtain ⟨A1, cap1, rfl⟩ := hK.len
      clear hK hE
      go_wp2_with fail
      go_ret
      exact ⟨ret_int HC.out, HB.out⟩
    | cons e es =>
      obtain ⟨p, q, a, b⟩ := e
      obtain ⟨g, cap1, rfl, hg, hcap, c0, c1, hK⟩ := hK.top
      have HK := Lib.hid hK
      have HE0 := Lib.hid (show EntsAt (w.heap.size + 1 + 1) wr es from fun e he => hE e (List.mem_cons_of_mem _ he))
      obtain ⟨hp1, hq1, hP, hQ⟩ := hE _ List.mem_cons_self
      have HP := Lib.hid hP
      have HQ := Lib.hid hQ
      have HPB := Lib.hid hp1
      have HQB := Lib.hid hq1
      clear hK hE hP hQ hp1 hq1
      have HES := Lib.hid (show es.length + 1 ≤ 1000000 by have h1 := HS.out; have h2 := HSM.out; have h3 := sum_len ((p, q, a, b) :: es); rw [h1] at h3; simp only [List.length_cons] at h3; omega)
      generalize hn : es.length + 1 = n at *
      have j0 : (n : Int) - 1 = ((es.length : Nat) : Int) := by omega
      have j1 : (0 : Int) ≤ (es.length : Int) := by omega
      have j2 : (es.length : Int) < (n : Int) := by omega
      have j3 : (0 : Int) < (n : Int) := by omega
      have j4 : n ≤ 1000000 := HES.out
      have j5 : es.length ≤ cap1 := by omega
      go_wp2_with fail
      go_quiet (fail)
      have hbq := below_drewN (Below.refl wr.heap.size wr) nq
      have HK := Lib.hid (own_below HK.out hbq)
      have HE := Lib.hid (HE0.out.below hbq HW.out)
      have HP := Lib.hid (HP.out.keep hbq)
      have HQ := Lib.hid (HQ.out.keep hbq)
      have HB := Lib.hid (HB.out.trans (hbq.mono HB.out.size))
      have HW := Lib.hid (Nat.le_trans HW.out hbq.size)
      clear hbq c0 c1 HE0
      generalize wr.drewN nq = w3 at *
      go_wp2_with fail
      refine (head_any _ _ p q a b _ HP.out HQ.out).mono ?_
      rintro e w4 ⟨rfl, hb⟩
      have HK := Lib.hid (own_below HK.out hb)
      have HE := Lib.hid (HE.out.below hb HW.out)
      have HP := Lib.hid (HP.out.keep hb)
      have HQ := Lib.hid (HQ.out.keep hb)
      have HB := Lib.hid (HB.out.trans (hb.mono HB.out.size))
      have HW := Lib.hid (Nat.le_trans HW.out hb.size)
      clear hb
      have HST := Lib.hid (stack_step a b (pairsE es))
      by_cases h0 : headR a b = 0
      · have HST := Lib.hid (HST.out.trans (if_neg (fun h => h h0)))
        have HLE := Lib.hid (head_zero h0)
        obtain ⟨A2, k2, d0, d1, d2, hx2, hra⟩ := HP.out.cells
        go_wp2_with fail
        clear d0 d1 d2 hra j0 j1 j2 j3 j4 j5
        go_loopw [5, 9] (fun v i wr => ∃ (k : Nat) (es' : List Ent), k ≤ a.kids.length ∧ i = .int .i64 ((k : Int) - 1) ∧ Hid (StkAt wr (w.heap.size + 1 + 1) v es') ∧ Hid (EntsAt (w.heap.size + 1 + 1) wr es') ∧ Hid (pairsE es' = (a.kids.zip b.kids).drop k ++ pairsE es) ∧ Hid (sumE es' = sizeL (a.kids.drop k) + sumE es) ∧ Hid (PtAt (fun b => b < w.heap.size + 1 + 1) wr p a) ∧ Hid (PtAt (fun b => b < w.heap.size + 1 + 1) wr q b) ∧ Hid (Below w.heap.size w wr) ∧ Hid (w.heap.size + 1 + 1 ≤ wr.heap.size)) (fun _ i _ => (intOf i + 1).toNat)
        case atStart => exact ⟨a.kids.length, es, Nat.le_refl _, rfl, HK, HE, by rw [List.drop_of_length_le (by rw [List.length_zip]; omega)]; rfl, by show sumE es = _; rw [List.drop_length, sizeL, Nat.zero_add], HP, HQ, HB, HW⟩
        case round =>
          clear HK HE HP HQ HB HW
          obtain ⟨k, es', hk, rfl, HK, HE, HPE, HSE, HP, HQ, HB, HW⟩ := hrel
          by_cases hk0 : 0 < k
          · obtain ⟨j, rfl⟩ : ∃ j, k = j + 1 := ⟨k - 1, by omega⟩
            rw [show ((j + 1 : Nat) : Int) - 1 = (j : Int) by omega]
            obtain ⟨a', ha⟩ : ∃ y, a.kids[j]? = some y := ⟨_, List.getElem?_eq_getElem (by omega)⟩
            obtain ⟨b', hb⟩ : ∃ y, b.kids[j]? = some y := ⟨_, List.getElem?_eq_getElem (by have := HLE.out; omega)⟩
            obtain ⟨A2, k2, d0, d1, d2, hx2, hra⟩ := HP.out.cells
            obtain ⟨B2, l2, f0, f1, f2, hy2, hrb⟩ := HQ.out.cells
            obtain ⟨ad, rfl, hpa⟩ := hra.pt ha
            obtain ⟨bd, rfl, hpb⟩ := hrb.pt hb
            have HD := Lib.hid d2
            have HF := Lib.hid f2
            have HPA := Lib.hid hpa
            have HPB2 := Lib.hid hpb
            have HAD := Lib.hid ((hra.blk ha).2)
            have HBD := Lib.hid ((hrb.blk hb).2)
            have HZ := Lib.hid (show (a.kids.zip b.kids).drop j = (a', b') :: (a.kids.zip b.kids).drop (j + 1) by
              have hz : (a.kids.zip b.kids)[j]? = some (a', b') := by rw [List.getElem?_zip_eq_some]; exact ⟨ha, hb⟩
              obtain ⟨h1, h2⟩ := List.getElem?_eq_some_iff.1 hz
              rw [List.drop_eq_getElem_cons h1, h2])
            have HSJ := Lib.hid (show sizeL (a.kids.drop j) = sizeR a' + sizeL (a.kids.drop (j + 1)) by
              obtain ⟨h1, h2⟩ := List.getElem?_eq_some_iff.1 ha
              rw [List.drop_eq_getElem_cons h1, h2, sizeL])
            have m1 : (0 : Int) ≤ (j : Int) := by omega
            have m2 : (j : Int) < (a.kids.length : Int) := by omega
            have m3 : (j : Int) < (b.kids.length : Int) := by have := HLE.out; omega
            have HLN := Lib.hid (show es'.length ≤ 1000000 by
              have h1 := sum_len es'
              have h2 := HSE.out
              have h3 := HS.out
              have h4 := HSM.out
              have h5 := size_kids a
              have h6 := size_drop a.kids (j + 1)
              rw [h2] at h1
              rw [← h3] at h4
              have h7 : sumE ((p, q, a, b) :: es) = sizeR a + sumE es := rfl
              omega)
            clear ha hb hra hrb hpa hpb d0 d1 d2 f0 f1 f2 hk0
            go_wp2_with fail
            refine region_tail (by kernel_rfl) (fun _ _ _ d _ h => by cases d <;> exact h) [(0, u5)] 14 _ [u5, .pointer (some p), .pointer (some p), .pointer (some ⟨p.block, p.off + 2, none⟩), .slice (some ad) a.kids.length k2, .int .i64 (↑j), .pointer (some (ad.add (j * 3))), .pointer (some q), .pointer (some q), .pointer (some ⟨q.block, q.off + 2, none⟩), .slice (some bd) b.kids.length l2, .int .i64 (↑j), .pointer (some (bd.add (j * 3))), .agg #[.pointer (some (ad.add (j * 3))), .pointer (some (bd.add (j * 3)))]] [true, true, true, true, true, true, true, true, true, true, true, true, true, true] (fun wq => Below (w.heap.size + 1 + 1) wr wq ∧ w.heap.size + 1 + 1 ≤ wq.heap.size ∧ StkAt wq (w.heap.size + 1 + 1) u5 es') (by kernel_rfl) ⟨⟨_, rfl, by kernel_rfl, by kernel_rfl, .inl ⟨by kernel_rfl, fun _ => by kernel_rfl⟩⟩, trivial⟩ (by kernel_rfl) (by kernel_rfl) (by kernel_rfl) (by kernel_rfl) (by kernel_rfl) (by kernel_rfl) (by kernel_rfl) (by kernel_rfl) (by simp [cutOps, fin, finOn, dstAt, List.range, List.range.loop, Act.put]; rfl) (by kernel_rfl) ⟨below_drew (Below.refl _ _), HW.out, HK.out⟩ ?_ ?_
            · refine ⟨fun wq hI => ?_, fun wq hI => ?_, fun wq hI => ?_, fun wq hI => ?_, fun wq hI => ?_, fun wq hI => ?_, fun wq hI => ?_, fun wq hI => ?_, fun wq hI => ?_, fun wq hI => ?_, fun wq hI => ?_, fun wq hI => ?_, fun wq hI => ?_, fun wq hI => ?_, trivial⟩
              · exact Gives.value (v := u5) (w' := wq) (by kernel_rfl) ⟨rfl, hI⟩
              · exact Gives.value (v := .pointer (some p)) (w' := wq) (by kernel_rfl) ⟨rfl, hI⟩
              · exact Gives.value (v := .pointer (some p)) (w' := wq) (by simp [go_sem]) ⟨rfl, hI⟩
              · exact Gives.value (v := .pointer (some ⟨p.block, p.off + 2, none⟩)) (w' := wq) (by simp [go_sem]) ⟨rfl, hI⟩
              · have cJ := (hI.1.cell (p := ⟨p.block, p.off + 2, none⟩) HPB.out).trans HD.out
                exact Gives.value (v := .slice (some ad) a.kids.length k2) (w' := wq) (by simp [go_sem, cJ]) ⟨rfl, hI⟩
              · exact Gives.value (v := .int .i64 (↑j)) (w' := wq) (by kernel_rfl) ⟨rfl, hI⟩
              · skip
                exact Gives.value (v := .pointer (some (ad.add (j * 3)))) (w' := wq) (by simp [go_sem, m1, m2]; try omega) ⟨rfl, hI⟩
              · exact Gives.value (v := .pointer (some q)) (w' := wq) (by kernel_rfl) ⟨rfl, hI⟩
              · exact Gives.value (v := .pointer (some q)) (w' := wq) (by simp [go_sem]) ⟨rfl, hI⟩
              · exact Gives.value (v := .pointer (some ⟨q.block, q.off + 2, none⟩)) (w' := wq) (by simp [go_sem]) ⟨rfl, hI⟩
              · have cJ := (hI.1.cell (p := ⟨q.block, q.off + 2, none⟩) HQB.out).trans HF.out
                exact Gives.value (v := .slice (some bd) b.kids.length l2) (w' := wq) (by simp [go_sem, cJ]) ⟨rfl, hI⟩
              · exact Gives.value (v := .int .i64 (↑j)) (w' := wq) (by kernel_rfl) ⟨rfl, hI⟩
              · skip
                exact Gives.value (v := .pointer (some (bd.add (j * 3)))) (w' := wq) (by simp [go_sem, m1, m3]; try omega) ⟨rfl, hI⟩
              · exact Gives.value (v := .agg #[.pointer (some (ad.add (j * 3))), .pointer (some (bd.add (j * 3)))]) (w' := wq) (by simp [go_sem]) ⟨rfl, hI⟩
            · intro wq hI
              obtain ⟨h1, h2, h3⟩ := hI
              have HSIZ := Lib.hid h2
              have hln := HLN.out
              show wpOps _ _ _ [14, 15, 16] _ _
              refine wpOps_step rfl rfl (Gives.wp (R := fun v w' => v = .slice (some ⟨wq.heap.size, 0, none⟩) 1 1 ∧ w' = wq.alloc (.cells #[.pointer (some (ad.add (j * 3))), .pointer (some (bd.add (j * 3)))] 71)) (Gives.value (v := .slice (some ⟨wq.heap.size, 0, none⟩) 1 1) (w' := wq.alloc (.cells #[.pointer (some (ad.add (j * 3))), .pointer (some (bd.add (j * 3)))] 71)) (by simp [execOp, Act.eval, go_sem]) ⟨rfl, rfl⟩) ?_)
              rintro v w' ⟨rfl, rfl⟩
              refine wpOps_step rfl rfl (wp_append_lies _ (.tmp 50) (.tmp 64) 72 rfl (w.heap.size + 1 + 1) 71 i0 (.agg #[.pointer none, .pointer none]) 2 16 Try.underlying72 hi hz0 hz1 hz2 rfl (by decide) (u5) (es'.length) (es'.reverse.flatMap entC) rfl (own_below h3 (bel_alloc wq _)) ⟨wq.heap.size, 0, none⟩ 1 1 [.pointer (some (ad.add (j * 3))), .pointer (some (bd.add (j * 3)))] rfl rfl (cells_new _ _ _) (by intro u hu; simp at hu; first | (subst hu; rfl) | (rcases hu with rfl | rfl <;> rfl) | (rcases hu with rfl | rfl | rfl <;> rfl) | (rcases hu with rfl | rfl | rfl | rfl | rfl | rfl <;> rfl)) (by decide) (by unfold maxLen; omega) (by omega) ?d6 _ rfl ?_)
              case d6 => have := HSIZ.out; simp; omega
              intro g4 cap4 w4 hown4 hgrow4 hg4 hlt4
              refine wpOps_step rfl rfl (Gives.wp (R := fun v w' => v = .slice (some ⟨g4, 0, none⟩) (es'.length + 1) cap4 ∧ w' = w4) (Gives.value (v := .slice (some ⟨g4, 0, none⟩) (es'.length + 1) cap4) (w' := w4) (by simp [execOp, Act.eval, go_sem]) ⟨rfl, rfl⟩) ?_)
              rintro v w' ⟨rfl, rfl⟩
              rename_i hK
              refine hK _ _ ?_
              clear hK
              have hba := bel_alloc wq (.cells #[.pointer (some (ad.add (j * 3))), .pointer (some (bd.add (j * 3)))] 71)
              have h2a := Nat.le_trans h2 hba.size
              have h1 := (h1.trans (hba.mono h2)).grown hgrow4 h2a (fun b hb => (World.ownsRow.lt h3 b hb).1)
              have h2 := Nat.le_trans h2a hgrow4.size
              have HK := Lib.hid (StkAt.push (e := (ad.add (j * 3), bd.add (j * 3), a', b')) hown4)
              clear hown4 hgrow4 hg4 hlt4 h3 hba h2a
              have HE := Lib.hid (show EntsAt (w.heap.size + 1 + 1) w' ((ad.add (j * 3), bd.add (j * 3), a', b') :: es') from fun e he => by
                rcases List.mem_cons.1 he with rfl | he
                · exact ⟨by rw [add_block]; exact HAD.out, by rw [add_block]; exact HBD.out, HPA.out.map_ h1.size (fun q hq => h1.cell hq) (by rw [add_block]; exact HAD.out), HPB2.out.map_ h1.size (fun q hq => h1.cell hq) (by rw [add_block]; exact HBD.out)⟩
                · exact (HE.out.map h1.size (fun q hq => h1.cell hq)) e he)
              have HP := Lib.hid (HP.out.map_ h1.size (fun q hq => h1.cell hq) HPB.out)
              have HQ := Lib.hid (HQ.out.map_ h1.size (fun q hq => h1.cell hq) HQB.out)
              have HB := Lib.hid (HB.out.trans (h1.mono (by omega)))
              have HW := Lib.hid h2
              have HPE := Lib.hid (show pairsE ((ad.add (j * 3), bd.add (j * 3), a', b') :: es') = (a.kids.zip b.kids).drop j ++ pairsE es by rw [HZ.out, List.cons_append, ← HPE.out]; rfl)
              have HSE := Lib.hid (show sumE ((ad.add (j * 3), bd.add (j * 3), a', b') :: es') = sizeL (a.kids.drop j) + sumE es by rw [HSJ.out, Nat.add_assoc, ← HSE.out]; rfl)
              clear h1 h2 m1 m2 m3
              go_wp2_with fail
              go_roundw
              case rel => exact ⟨j, _, by omega, by go_num, HK, HE, HPE, HSE, HP, HQ, HB, HW⟩
              case measure => simp [intOf]
          · obtain rfl : k = 0 := by omega
            have HN := Lib.hid (show StkP w (w.heap.size + 1 + 1) (w.heap.size + 1 + 1) (cmpR x y) (sizeL a.kids + sumE es) u5 wr from ⟨es', HK.out, HE.out, by rw [HPE.out, List.drop_zero, ← HST.out]; exact HC.out, by rw [HSE.out, List.drop_zero], HB.out, HW.out⟩)
            have HLT := Lib.hid (show sizeL a.kids + sumE es < sumE ((p, q, a, b) :: es) by
              have h7 : sumE ((p, q, a, b) :: es) = sizeR a + sumE es := rfl
              rw [h7, size_kids]; omega)
            go_wp2_with fail
            go_roundw
            case rel => exact ⟨_, by have h1 := HLT.out; have h2 := HS.out; have h3 := HSM.out; omega, HN⟩
            case measure =>
              refine Nat.lt_of_le_of_lt (leastN_le (P := fun s => s ≤ 1000000 ∧ _) ⟨?_, HN.out⟩) ?_
              · have h1 := HLT.out; have h2 := HS.out; have h3 := HSM.out; omega
              · have h1 := HLT.out; have h2 := HS.out; omega
      · have HF := Lib.hid (HC.out.symm.trans (HST.out.trans (if_pos h0)))
        go_wp2_with fail
        go_ret
        exact ⟨ret_int HF.out.symm, HB.out⟩
end Go.Proofs.Ytmhddlhlniajpaa
