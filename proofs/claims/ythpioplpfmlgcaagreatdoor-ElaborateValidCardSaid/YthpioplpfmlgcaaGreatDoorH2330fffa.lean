/- The table is filled by increasing length. -/
import Derived.Test.YthpioplpfmlgcaaGreatDoorHb916f4c0
namespace Go.Proofs.YthpioplpfmlgcaaGreatDoor.Ch
open Go.RowKit
theorem info_55 : (Tryz.prog.info? 135).map (fun i => (i.zero, i.size, i.bytes)) = some (some (.slice none 0 0), 1, 24) := by kernel_rfl
theorem info_86 : (Tryz.prog.info? 172).map (fun i => (i.zero, i.size, i.bytes)) = some (some (.slice none 0 0), 1, 24) := by kernel_rfl
abbrev nilsC (n : Nat) : Array Value := madeCells #[.slice none 0 0] n
/-- the table while it is made: k rows are there -/
structure TabW (w0 w : World) (g : Nat) (F : Fin) (rs : List Rul) (ts : List ByteArray) (gc : Nat) (rows : Nat → Nat) (k : Nat) (fill : Nat → Nat → Bool) : Prop where
  blk : Blk w g 171 #[.slice F.R rs.length F.cR, .slice F.T ts.length F.cT, .slice F.I ts.length F.cI, .slice F.P ts.length F.cP, .slice F.Q ts.length F.cQ, .int .i64 (findI rs 4 []), .slice (some ⟨gc, 0, none⟩) ts.length ts.length]
  i1 : IntsO w F.I (findsL rs ts 1)
  i2 : IntsO w F.P (findsL rs ts 2)
  i3 : IntsO w F.Q (findsL rs ts 3)
  outer : ∃ cs, Blk w gc 172 cs ∧ cs.size = ts.length ∧ ∀ i, i < k → cs[i]? = some (.slice (some ⟨rows i, 0, none⟩) (ts.length + 1) (ts.length + 1))
  row : ∀ i, i < k → ∃ cs, Blk w (rows i) 135 cs ∧ cs.size = ts.length + 1 ∧ ∀ j, fill i j = true → ∃ A cap bs, cs[j]? = some (.slice A bs.length cap) ∧ bs.length ≤ cap ∧ cap ≤ 9223372036854775807 ∧ PtrsO w A bs ∧ Shs rs w bs (cellR rs ts i j)
  inj : ∀ i i', i < k → i' < k → rows i = rows i' → i = i'
  below : Below w0.heap.size w0 w
  low : w0.heap.size ≤ gc ∧ ∀ i, i < k → w0.heap.size ≤ rows i
section
variable {w0 w : World} {g : Nat} {F : Fin} {rs : List Rul} {ts : List ByteArray} {gc : Nat} {rows : Nat → Nat} {k : Nat} {fill : Nat → Nat → Bool}
theorem TabW.keep {w' : World} (h : TabW w0 w g F rs ts gc rows k fill) (hb : Below w.heap.size w w') : TabW w0 w' g F rs ts gc rows k fill := by
  obtain ⟨h1, i1, i2, i3, ⟨cs, h3, h4, h5⟩, h6, h7, h8, h9⟩ := h
  refine ⟨_root_.Go.Proofs.YthpioplpfmlgcaaGreatDoor.keep hb h1, i1.keep hb, i2.keep hb, i3.keep hb, ⟨cs, _root_.Go.Proofs.YthpioplpfmlgcaaGreatDoor.keep hb h3, h4, h5⟩, fun i hi => ?_, h7, h8.trans (hb.mono h8.size), h9⟩
  obtain ⟨cs, h6, h7, h8⟩ := h6 i hi
  refine ⟨cs, _root_.Go.Proofs.YthpioplpfmlgcaaGreatDoor.keep hb h6, h7, fun j hj => ?_⟩
  obtain ⟨A, cap, bs, h9, ha, hb', hc, hd⟩ := h8 j hj
  exact ⟨A, cap, bs, h9, ha, hb', hc.keep hb, hd.keep hb⟩
theorem TabW.tab (h : TabW w0 w g F rs ts gc rows ts.length fill) (hR : RulsAt w0 F.R rs) (hT : ToksAt w0 F.T ts) : TabAt w g F rs ts gc rows fill := by
  obtain ⟨h1, i1, i2, i3, ⟨cs, h3, h4, h5⟩, h6, h7, h8, h9⟩ := h
  exact ⟨h1, ⟨hR.keep h8, hT.keep h8, i1, i2, i3⟩, ⟨cs, h3, h5⟩, h6⟩
/-- a new row -/
theorem TabW.grow (h : TabW w0 w g F rs ts gc rows k fun _ _ => false) (hk : k < ts.length) {gr : Nat} (hr : Blk w gr 135 (nilsC (ts.length + 1))) (hn : ∀ i, i < k → rows i ≠ gr) (hlo : w0.heap.size ≤ gr) :
    TabW w0 (w.setCell ⟨gc, k, none⟩ (.slice (some ⟨gr, 0, none⟩) (ts.length + 1) (ts.length + 1))) g F rs ts gc (fun i => if i = k then gr else rows i) (k + 1) fun _ _ => false := by
  obtain ⟨h1, i1, i2, i3, ⟨cs, h3, h4, h5⟩, h6, h7, h8, h9⟩ := h
  have far : ∀ b t cs', Blk w b t cs' → t ≠ 172 → Blk (w.setCell ⟨gc, k, none⟩ (.slice (some ⟨gr, 0, none⟩) (ts.length + 1) (ts.length + 1))) b t cs' := fun b t cs' hb ht => hb.far (fun e => by
    have e : b = gc := e
    rw [e] at hb
    exact ht (blk_type hb h3)) _
  refine ⟨far _ _ _ h1 (by decide), i1.set_ h3 (by decide) _, i2.set_ h3 (by decide) _, i3.set_ h3 (by decide) _, ⟨_, h3.set_ k _, by simpa using h4, fun i hi => ?_⟩, fun i hi => ?_, fun i i' hi hi' e => ?_, h8.setCell (p := ⟨gc, k, none⟩) h9.1 _, h9.1, fun i hi => ?_⟩
  · by_cases e : i = k
    · rw [if_pos e, e]
      simp [h4, hk]
    · rw [if_neg e, Array.getElem?_setIfInBounds_ne (fun h => e h.symm)]
      exact h5 i (by omega)
  · show ∃ cs, Blk _ (if i = k then gr else rows i) _ cs ∧ _
    by_cases e : i = k
    · rw [if_pos e]
      exact ⟨_, far _ _ _ hr (by decide), by simp [size_madeCells], fun j hj => by cases hj⟩
    · rw [if_neg e]
      obtain ⟨cs', ha, hb, hc⟩ := h6 i (by omega)
      exact ⟨cs', far _ _ _ ha (by decide), hb, fun j hj => by cases hj⟩
  · have e : (if i = k then gr else rows i) = (if i' = k then gr else rows i') := e
    by_cases e1 : i = k
    · by_cases e2 : i' = k
      · omega
      · rw [if_pos e1, if_neg e2] at e
        exact (hn i' (by omega) e.symm).elim
    · by_cases e2 : i' = k
      · rw [if_neg e1, if_pos e2] at e
        exact (hn i (by omega) e).elim
      · rw [if_neg e1, if_neg e2] at e
        exact h7 i i' (by omega) (by omega) e
  · show _ ≤ (if i = k then gr else rows i)
    by_cases e : i = k
    · rw [if_pos e]; exact hlo
    · rw [if_neg e]; exact h9.2 i (by omega)
/-- a cell is filled -/
theorem TabW.store (h : TabW w0 w g F rs ts gc rows ts.length fill) {i j : Nat} (hi : i < ts.length) (hj : j ≤ ts.length) {A : Option Addr} {cap : Nat} {bs : List Nat} (h1 : bs.length ≤ cap) (h2 : cap ≤ 9223372036854775807) (hP : PtrsO w A bs) (hS : Shs rs w bs (cellR rs ts i j)) {fill' : Nat → Nat → Bool} (hf : ∀ p q, fill' p q = true → fill p q = true ∨ (p = i ∧ q = j)) :
    TabW w0 (w.setCell ⟨rows i, j, none⟩ (.slice A bs.length cap)) g F rs ts gc rows ts.length fill' := by
  obtain ⟨t1, i1, i2, i3, ⟨cs, t3, t4, t5⟩, t6, t7, t8, t9⟩ := h
  obtain ⟨ci, ci1, ci2, ci3⟩ := t6 i hi
  have far : ∀ b t cs', Blk w b t cs' → t ≠ 135 → Blk (w.setCell ⟨rows i, j, none⟩ (.slice A bs.length cap)) b t cs' := fun b t cs' hb ht => hb.far (fun e => by
    have e : b = rows i := e
    rw [e] at hb
    exact ht (blk_type hb ci1)) _
  have pk : ∀ A' bs', PtrsO w A' bs' → PtrsO (w.setCell ⟨rows i, j, none⟩ (.slice A bs.length cap)) A' bs' := fun A' bs' hp => hp.set_ (p := ⟨rows i, j, none⟩) ci1 (by decide) _
  have sk : ∀ bs' xs, Shs rs w bs' xs → Shs rs (w.setCell ⟨rows i, j, none⟩ (.slice A bs.length cap)) bs' xs := fun bs' xs hp => hp.set_ (p := ⟨rows i, j, none⟩) ci1 (by decide) _
  refine ⟨far _ _ _ t1 (by decide), i1.set_ (p := ⟨rows i, j, none⟩) ci1 (by decide) _, i2.set_ (p := ⟨rows i, j, none⟩) ci1 (by decide) _, i3.set_ (p := ⟨rows i, j, none⟩) ci1 (by decide) _, ⟨cs, far _ _ _ t3 (by decide), t4, t5⟩, fun p hp => ?_, t7, t8.setCell (p := ⟨rows i, j, none⟩) (t9.2 i hi) _, t9⟩
  by_cases e : p = i
  · subst e
    refine ⟨_, ci1.set_ j _, by simpa using ci2, fun q hq => ?_⟩
    by_cases eq : q = j
    · subst eq
      exact ⟨A, cap, bs, (show (ci.setIfInBounds q (.slice A bs.length cap))[q]? = some (.slice A bs.length cap) by rw [Array.getElem?_setIfInBounds]; simp; omega), h1, h2, pk _ _ hP, sk _ _ hS⟩
    · have hq' : fill p q = true := by
        rcases hf p q hq with h | h
        · exact h
        · exact (eq h.2).elim
      obtain ⟨A', cap', bs', ha, hb, hc, hd, he⟩ := ci3 q hq'
      exact ⟨A', cap', bs', by rw [Array.getElem?_setIfInBounds_ne (fun h => eq h.symm)]; exact ha, hb, hc, pk _ _ hd, sk _ _ he⟩
  · obtain ⟨cp, c1, c2, c3⟩ := t6 p hp
    refine ⟨cp, c1.far (fun e2 => e (t7 p i hp hi e2)) _, c2, fun q hq => ?_⟩
    have hq' : fill p q = true := by
      rcases hf p q hq with h | h
      · exact h
      · exact (e h.1).elim
    obtain ⟨A', cap', bs', ha, hb, hc, hd, he⟩ := c3 q hq'
    exact ⟨A', cap', bs', ha, hb, hc, pk _ _ hd, sk _ _ he⟩
end
def InvF (w : World) (rs : List Rul) (ts : List ByteArray) : List Bool → Fin × Nat × Nat → World → Prop
  | [b2, b4, b6], gx, wq => Below w.heap.size w wq ∧ (b2 = true → FinAt wq gx.1 rs ts ∧ RulsAt w gx.1.R rs ∧ ToksAt w gx.1.T ts) ∧ (b4 = true → Blk wq gx.2.1 172 (nilsC ts.length) ∧ w.heap.size ≤ gx.2.1) ∧ (b6 = true → Blk wq gx.2.2 171 #[.slice gx.1.R rs.length gx.1.cR, .slice gx.1.T ts.length gx.1.cT, .slice gx.1.I ts.length gx.1.cI, .slice gx.1.P ts.length gx.1.cP, .slice gx.1.Q ts.length gx.1.cQ, .int .i64 (findI rs 4 []), .slice (some ⟨gx.2.1, 0, none⟩) ts.length ts.length])
  | _, _, _ => False
theorem InvF.keep {w : World} {rs : List Rul} {ts : List ByteArray} {b2 b4 b6 : Bool} {gx : Fin × Nat × Nat} {wq w' : World} (h : InvF w rs ts [b2, b4, b6] gx wq) (hb : Below wq.heap.size wq w') : InvF w rs ts [b2, b4, b6] gx w' :=
  ⟨h.1.trans (hb.mono h.1.size), fun e => ⟨(h.2.1 e).1.keep hb, (h.2.1 e).2⟩, fun e => ⟨_root_.Go.Proofs.YthpioplpfmlgcaaGreatDoor.keep hb (h.2.2.1 e).1, (h.2.2.1 e).2⟩, fun e => _root_.Go.Proofs.YthpioplpfmlgcaaGreatDoor.keep hb (h.2.2.2 e)⟩
def NewP (rs : List Rul) (ts : List ByteArray) (w : World) (e : Ending) (w' : World) : Prop := ∃ g F gc rows, e = .returned (ptrV g) ∧ TabAt w' g F rs ts gc rows (fun p q => decide (p < q) && decide (q ≤ ts.length)) ∧ Below w.heap.size w w'
/-- what is filled: all of less length, and of this length what begins ahead of i -/
def fillS (n s i : Nat) (p q : Nat) : Bool := decide (p < q) && (decide (q ≤ n) && (decide (q - p < s) || (decide (q - p = s) && decide (p < i))))
theorem fillS_iff {n s i p q : Nat} : fillS n s i p q = true ↔ p < q ∧ q ≤ n ∧ (q - p < s ∨ (q - p = s ∧ p < i)) := by
  unfold fillS
  simp
def InvG (w0 wr : World) (g : Nat) (F : Fin) (rs : List Rul) (ts : List ByteArray) (gc : Nat) (rows : Nat → Nat) (k : Nat) : List Bool → Nat → World → Prop
  | [false, _], _, wq => Below wr.heap.size wr wq
  | [true, false], gr, wq => Below wr.heap.size wr wq ∧ Blk wq gr 135 (nilsC (ts.length + 1)) ∧ wr.heap.size ≤ gr
  | [true, true], gr, wq => TabW w0 wq g F rs ts gc (fun i => if i = k then gr else rows i) (k + 1) fun _ _ => false
  | _, _, _ => False
theorem InvG.bel {w0 wr : World} {g : Nat} {F : Fin} {rs : List Rul} {ts : List ByteArray} {gc : Nat} {rows : Nat → Nat} {k : Nat} {b7 b9 : Bool} {gr : Nat} {wq : World} (h : InvG w0 wr g F rs ts gc rows k [b7, b9] gr wq) (h9 : b9 = false) : Below wr.heap.size wr wq := by
  subst h9
  cases b7
  · exact h
  · exact h.1
theorem TabW.sub {w0 w : World} {g : Nat} {F : Fin} {rs : List Rul} {ts : List ByteArray} {gc : Nat} {rows : Nat → Nat} {k : Nat} {fill fill' : Nat → Nat → Bool} (h : TabW w0 w g F rs ts gc rows k fill) (hf : ∀ p q, fill' p q = true → fill p q = true) : TabW w0 w g F rs ts gc rows k fill' := by
  obtain ⟨h1, i1, i2, i3, h3, h6, h7, h8, h9⟩ := h
  refine ⟨h1, i1, i2, i3, h3, fun i hi => ?_, h7, h8, h9⟩
  obtain ⟨cs, ha, hb, hc⟩ := h6 i hi
  exact ⟨cs, ha, hb, fun j hj => hc j (hf i j hj)⟩
def InvH (w0 wr : World) (g : Nat) (F : Fin) (rs : List Rul) (ts : List ByteArray) (gc : Nat) (rows : Nat → Nat) (s i : Nat) : List Bool → Value × List Nat → World → Prop
  | [false, _], _, wq => Below wr.heap.size wr wq
  | [true, false], gx, wq => Below wr.heap.size wr wq ∧ OwnP wq wr.heap.size gx.1 gx.2 ∧ Shs rs wq gx.2 (cellR rs ts i (i + s))
  | [true, true], _, wq => TabW w0 wq g F rs ts gc rows ts.length (fillS ts.length s (i + 1))
  | _, _, _ => False
theorem InvH.bel {w0 wr : World} {g : Nat} {F : Fin} {rs : List Rul} {ts : List ByteArray} {gc : Nat} {rows : Nat → Nat} {s i : Nat} {b7 b9 : Bool} {gr : Value × List Nat} {wq : World} (h : InvH w0 wr g F rs ts gc rows s i [b7, b9] gr wq) (h9 : b9 = false) : Below wr.heap.size wr wq := by
  subst h9
  cases b7
  · exact h
  · exact h.1
set_option maxRecDepth 100000 in
set_option maxHeartbeats 4000000 in
theorem newTable_any (A T : Option Addr) (cap cT : Nat) (rs : List Rul) (ts : List ByteArray) (w : World) (hv : validB rs = true) (hR : RulsAt w A rs) (hT : ToksAt w T ts) (hn : rs.length ≤ 1000000) (hm : ts.length ≤ 1000000) : Calls Tryz.prog 86 #[.slice A rs.length cap, .slice T ts.length cT] w (NewP rs ts w) := by
  obtain ⟨i0, hi, hz0, hz1, hz2⟩ := info_parts info_55
  obtain ⟨i1, hi1, hy0, hy1, hy2⟩ := info_parts info_86
  have HV := Lib.hid hv
  have HR := Lib.hid hR
  have HT := Lib.hid hT
  clear hv hR hT
  go_enter Tryz.func86, Tryz.ntmps86
  go_upto_region 2 with (fail)
  refine region_ghost (X := Fin × Nat × Nat) (by kernel_rfl) _ (fun gx => [.slice A rs.length cap, .slice T ts.length cT, .agg #[.slice gx.1.R rs.length gx.1.cR, .slice gx.1.T ts.length gx.1.cT, .slice gx.1.I ts.length gx.1.cI, .slice gx.1.P ts.length gx.1.cP, .slice gx.1.Q ts.length gx.1.cQ, .int .i64 (findI rs 4 [])], .int .i64 ts.length, .slice (some ⟨gx.2.1, 0, none⟩) ts.length ts.length, .agg #[.slice gx.1.R rs.length gx.1.cR, .slice gx.1.T ts.length gx.1.cT, .slice gx.1.I ts.length gx.1.cI, .slice gx.1.P ts.length gx.1.cP, .slice gx.1.Q ts.length gx.1.cQ, .int .i64 (findI rs 4 []), .slice (some ⟨gx.2.1, 0, none⟩) ts.length ts.length], .pointer (some ⟨gx.2.2, 0, none⟩), .pointer (some ⟨gx.2.2, 0, none⟩)]) [true, true, true, true, true, true, true, true] [2, 4, 6] (InvF w rs ts) (⟨none, 0, none, 0, none, 0, none, 0, none, 0⟩, 0, 0) (by kernel_rfl) (fun gx => by simp [fin, finOn, dstAt, List.range, List.range.loop, Act.put]; rfl) (fun _ => by kernel_rfl) (by kernel_rfl) ⟨below_drew (Below.refl _ _), (fun h => by cases h), (fun h => by cases h), fun h => by cases h⟩ ?_ ?_
  · refine ⟨fun L gx wq hL hb ha hI => ?_, fun L gx wq hL hb ha hI => ?_, fun L gx wq hL hb ha hI => ?_, fun L gx wq hL hb ha hI => ?_, fun L gx wq hL hb ha hI => ?_, fun L gx wq hL hb ha hI => ?_, fun L gx wq hL hb ha hI => ?_, fun L gx wq hL hb ha hI => ?_, trivial⟩
    · exact Gives.plain (v := .slice A rs.length cap) (w' := wq) (by kernel_rfl) rfl hI
    · exact Gives.plain (v := .slice T ts.length cT) (w' := wq) (by kernel_rfl) rfl hI
    · have e2 : L 2 = false := hL
      have e6 : L 6 = false := ha 6 (by kernel_rfl)
      simp only [List.map, e2, e6] at hI ⊢
      refine Gives.call (f := 126) (args := #[.slice A rs.length cap, .slice T ts.length cT]) (w' := wq) (by kernel_rfl) ((newFinder_any A T cap cT rs ts wq (HR.out.keep hI.1) (HT.out.keep hI.1) hn hm).mono ?_)
      rintro e wa ⟨F, rfl, hF, hRT, hb5⟩
      have hK := hI.keep hb5
      obtain ⟨rfl, rfl⟩ := hRT
      exact ⟨_, rfl, (F, gx.2), rfl, (KeepsV.of_same ⟨.inr (.inr rfl), .inr (.inr rfl), .inl rfl, .inr (.inr rfl), (by first | exact .inr (.inr rfl) | exact .inr (.inl (by kernel_rfl))), (by first | exact .inr (.inr rfl) | exact .inr (.inl (by kernel_rfl))), (by first | exact .inr (.inr rfl) | exact .inr (.inl (by kernel_rfl))), (by first | exact .inr (.inr rfl) | exact .inr (.inl (by kernel_rfl))), trivial⟩), hK.1, (fun _ => ⟨hF, HR.out, HT.out⟩), hK.2.2.1, fun h => by cases h⟩
    · exact Gives.plain (v := .int .i64 ts.length) (w' := wq) (by kernel_rfl) rfl hI
    · have e4 : L 4 = false := hL
      have e6 : L 6 = false := ha 6 (by kernel_rfl)
      simp only [List.map, e4, e6] at hI ⊢
      have hrun := run_make (P := Tryz.prog) wq 169 172 i1 (.slice none 0 0) Tryz.underlying169 hi1 hy0 .i64 .i64 ts.length ts.length (by omega) (by omega) (by rw [hy2]; omega) (by omega)
      rw [hy1, Nat.mul_one, Int.toNat_natCast] at hrun
      have hK := hI.keep (bel_alloc wq (.cells (nilsC ts.length) 172))
      exact Gives.value (v := .slice (some ⟨wq.heap.size, 0, none⟩) ts.length ts.length) (w' := wq.alloc (.cells (nilsC ts.length) 172)) (by simp [go_sem, hrun]) ⟨(gx.1, wq.heap.size, gx.2.2), rfl, (KeepsV.of_same ⟨.inr (.inr rfl), .inr (.inr rfl), (by first | exact .inr (.inr rfl) | exact .inr (.inl (by kernel_rfl))), .inr (.inr rfl), .inl rfl, (by first | exact .inr (.inr rfl) | exact .inr (.inl (by kernel_rfl))), (by first | exact .inr (.inr rfl) | exact .inr (.inl (by kernel_rfl))), (by first | exact .inr (.inr rfl) | exact .inr (.inl (by kernel_rfl))), trivial⟩), hK.1, hK.2.1, (fun _ => ⟨Blk.new _ _ _, hI.1.size⟩), fun h => by cases h⟩
    · exact Gives.plain (v := .agg #[.slice gx.1.R rs.length gx.1.cR, .slice gx.1.T ts.length gx.1.cT, .slice gx.1.I ts.length gx.1.cI, .slice gx.1.P ts.length gx.1.cP, .slice gx.1.Q ts.length gx.1.cQ, .int .i64 (findI rs 4 []), .slice (some ⟨gx.2.1, 0, none⟩) ts.length ts.length]) (w' := wq) (by simp [go_sem]) rfl hI
    · have e2 : L 2 = true := hb 2 (by kernel_rfl)
      have e4 : L 4 = true := hb 4 (by kernel_rfl)
      have e6 : L 6 = false := hL
      simp only [List.map, e2, e4, e6] at hI ⊢
      have hK := hI.keep (bel_alloc wq (.cells #[.slice gx.1.R rs.length gx.1.cR, .slice gx.1.T ts.length gx.1.cT, .slice gx.1.I ts.length gx.1.cI, .slice gx.1.P ts.length gx.1.cP, .slice gx.1.Q ts.length gx.1.cQ, .int .i64 (findI rs 4 []), .slice (some ⟨gx.2.1, 0, none⟩) ts.length ts.length] 171))
      exact Gives.value (v := .pointer (some ⟨wq.heap.size, 0, none⟩)) (w' := wq.alloc (.cells #[.slice gx.1.R rs.length gx.1.cR, .slice gx.1.T ts.length gx.1.cT, .slice gx.1.I ts.length gx.1.cI, .slice gx.1.P ts.length gx.1.cP, .slice gx.1.Q ts.length gx.1.cQ, .int .i64 (findI rs 4 []), .slice (some ⟨gx.2.1, 0, none⟩) ts.length ts.length] 171)) (by simp [go_sem]) ⟨(gx.1, gx.2.1, wq.heap.size), rfl, (KeepsV.of_same ⟨.inr (.inr rfl), .inr (.inr rfl), (by first | exact .inr (.inr rfl) | exact .inr (.inl (by kernel_rfl))), .inr (.inr rfl), (by first | exact .inr (.inr rfl) | exact .inr (.inl (by kernel_rfl))), (by first | exact .inr (.inr rfl) | exact .inr (.inl (by kernel_rfl))), .inl rfl, (by first | exact .inr (.inr rfl) | exact .inr (.inl (by kernel_rfl))), trivial⟩), hK.1, hK.2.1, hK.2.2.1, fun _ => Blk.new _ _ _⟩
    · exact Gives.plain (v := .pointer (some ⟨gx.2.2, 0, none⟩)) (w' := wq) (by kernel_rfl) rfl hI
  · intro gx wq hI
    obtain ⟨F, gc, g⟩ := gx
    obtain ⟨hb, hF, hgc, hg⟩ := hI
    obtain ⟨hF, hR2, hT2⟩ := hF rfl
    have HR2 := Lib.hid hR2
    have HT2 := Lib.hid hT2
    have HW : Hid (TabW w wq g F rs ts gc (fun _ => 0) 0 fun _ _ => false) := ⟨hg rfl, hF.inf, hF.pre, hF.post, ⟨_, (hgc rfl).1, by simp [size_madeCells], (fun i hi => by omega)⟩, (fun i hi => by omega), (fun i i' hi => by omega), hb, (hgc rfl).2, fun i hi => by omega⟩
    clear hb hF hgc hg hR2 hT2
    obtain ⟨R, cR, T', cT', I, cI, P, cP, Q, cQ⟩ := F
    dsimp only at HR2 HT2
    have ct6 := HW.out.blk.cell 6
    go_wp2_with fail
    clear ct6
    go_loopw [24] (fun i wr => ∃ (k : Nat) (rows : Nat → Nat), k ≤ ts.length ∧ i = .int .i64 k ∧ Hid (TabW w wr g ⟨R, cR, T', cT', I, cI, P, cP, Q, cQ⟩ rs ts gc rows k fun _ _ => false)) (fun i _ => ts.length - (intOf i).toNat)
    case atStart => exact ⟨0, _, by omega, rfl, HW⟩
    case round =>
      clear HW
      obtain ⟨k, rows, hk, rfl, HW⟩ := hrel
      by_cases hlt : k < ts.length
      · go_upto_region 6 with (fail)
        refine region_ghost (X := Nat) (by kernel_rfl) _ (fun gr => [.pointer (some ⟨g, 0, none⟩), .pointer (some ⟨g, 0, none⟩), .pointer (some ⟨g, 6, none⟩), .slice (some ⟨gc, 0, none⟩) ts.length ts.length, .int .i64 k, .int .i64 ts.length, .int .i64 ((ts.length : Int) + 1), .slice (some ⟨gr, 0, none⟩) (ts.length + 1) (ts.length + 1), .pointer (some ⟨gc, k, none⟩), undef]) [true, true, true, true, true, true, true, true, true, true] [7, 9] (InvG w wr g ⟨R, cR, T', cT', I, cI, P, cP, Q, cQ⟩ rs ts gc rows k) 0 (by kernel_rfl) (fun gr => by simp [fin, finOn, dstAt, List.range, List.range.loop, Act.put]; rfl) (fun _ => by kernel_rfl) (by kernel_rfl) (below_drew (Below.refl _ _)) ?_ ?_
        · refine ⟨fun L gr wq1 hL hb ha hI => ?_, fun L gr wq1 hL hb ha hI => ?_, fun L gr wq1 hL hb ha hI => ?_, fun L gr wq1 hL hb ha hI => ?_, fun L gr wq1 hL hb ha hI => ?_, fun L gr wq1 hL hb ha hI => ?_, fun L gr wq1 hL hb ha hI => ?_, fun L gr wq1 hL hb ha hI => ?_, fun L gr wq1 hL hb ha hI => ?_, fun L gr wq1 hL hb ha hI => ?_, trivial⟩
          · exact Gives.plain (v := .pointer (some ⟨g, 0, none⟩)) (w' := wq1) (by kernel_rfl) rfl hI
          · exact Gives.plain (v := .pointer (some ⟨g, 0, none⟩)) (w' := wq1) (by simp [go_sem]) rfl hI
          · exact Gives.plain (v := .pointer (some ⟨g, 6, none⟩)) (w' := wq1) (by simp [go_sem]) rfl hI
          · have cJ := (HW.out.keep (hI.bel (ha 9 (by kernel_rfl)))).blk.cell 6
            exact Gives.plain (v := .slice (some ⟨gc, 0, none⟩) ts.length ts.length) (w' := wq1) (by simp [go_sem, cJ]) rfl hI
          · exact Gives.plain (v := .int .i64 k) (w' := wq1) (by kernel_rfl) rfl hI
          · exact Gives.plain (v := .int .i64 ts.length) (w' := wq1) (by kernel_rfl) rfl hI
          · have hw1 : IntKind.i64.wrap ((ts.length : Int) + 1) = (ts.length : Int) + 1 := IntWalk.i64_in _ (by omega)
            exact Gives.plain (v := .int .i64 ((ts.length : Int) + 1)) (w' := wq1) (by simp [go_sem, hw1]) rfl hI
          · have e7 : L 7 = false := hL
            have e9 : L 9 = false := ha 9 (by kernel_rfl)
            simp only [List.map, e7, e9] at hI ⊢
            have hrun := run_make (P := Tryz.prog) wq1 172 135 i0 (.slice none 0 0) Tryz.underlying172 hi hz0 .i64 .i64 ((ts.length : Int) + 1) ((ts.length : Int) + 1) (by omega) (by omega) (by rw [hz2]; omega) (by omega)
            rw [hz1, Nat.mul_one, show ((ts.length : Int) + 1).toNat = ts.length + 1 by omega] at hrun
            have hbe : Below wr.heap.size wr wq1 := hI
            have hba := bel_alloc wq1 (.cells (nilsC (ts.length + 1)) 135)
            exact Gives.value (v := .slice (some ⟨wq1.heap.size, 0, none⟩) (ts.length + 1) (ts.length + 1)) (w' := wq1.alloc (.cells (nilsC (ts.length + 1)) 135)) (by simp [go_sem, hrun]) ⟨wq1.heap.size, rfl, (KeepsV.of_same ⟨.inr (.inr rfl), .inr (.inr rfl), .inr (.inr rfl), .inr (.inr rfl), .inr (.inr rfl), .inr (.inr rfl), .inr (.inr rfl), .inl rfl, .inr (.inr rfl), .inr (.inr rfl), trivial⟩), hbe.trans (hba.mono hbe.size), Blk.new _ _ _, hbe.size⟩
          · have hkt := hlt
            exact Gives.plain (v := .pointer (some ⟨gc, k, none⟩)) (w' := wq1) (by simp [go_sem]; omega) rfl hI
          · have e7 : L 7 = true := hb 7 (by kernel_rfl)
            have e9 : L 9 = false := hL
            simp only [List.map, e7, e9] at hI ⊢
            obtain ⟨hbe, hgr, hlo⟩ := hI
            have hW := HW.out.keep hbe
            obtain ⟨cs, hcs, hsz, _⟩ := hW.outer
            have hlt9 : k < cs.size := by omega
            have cJ : wq1.cell? ⟨gc, k, none⟩ = some cs[k] := by rw [hcs.cell]; exact Array.getElem?_eq_getElem hlt9
            have fJ := hcs.frozen k
            exact Gives.skip (w' := wq1.setCell ⟨gc, k, none⟩ (.slice (some ⟨gr, 0, none⟩) (ts.length + 1) (ts.length + 1))) (by simp [go_sem, cJ, fJ]) ⟨gr, rfl, KeepsV.same, hW.grow hlt hgr (fun i hi e => by
              obtain ⟨cs', h1, _⟩ := HW.out.row i hi
              have := h1.lt
              omega) (Nat.le_trans HW.out.below.size hlo)⟩
        · intro gr wq1 hI
          have HW := Lib.hid (show TabW w wq1 g ⟨R, cR, T', cT', I, cI, P, cP, Q, cQ⟩ rs ts gc (fun i => if i = k then gr else rows i) (k + 1) fun _ _ => false from hI)
          clear hI
          go_wp2_with fail
          go_roundw
          case rel => exact ⟨k + 1, _, by omega, by go_num, HW⟩
          case measure => simp [intOf]; omega

      · obtain rfl : k = ts.length := by omega
        have HW : Hid (TabW w wr g ⟨R, cR, T', cT', I, cI, P, cP, Q, cQ⟩ rs ts gc rows ts.length (fillS ts.length 1 0)) := Lib.hid (HW.out.sub fun p q h => by rw [fillS_iff] at h; omega)
        go_wp2_with fail
        go_loopw [8] (fun z wr => ∃ s : Nat, 1 ≤ s ∧ s ≤ ts.length + 1 ∧ z = .int .i64 s ∧ Hid (TabW w wr g ⟨R, cR, T', cT', I, cI, P, cP, Q, cQ⟩ rs ts gc rows ts.length (fillS ts.length s 0))) (fun z _ => ts.length + 1 - (intOf z).toNat)
        case atStart => exact ⟨1, by omega, by omega, rfl, HW⟩
        case round =>
          clear HW
          obtain ⟨s, hs1, hs2, rfl, HW⟩ := hrel
          by_cases hls : s ≤ ts.length
          · go_wp2_with fail
            go_loopw [9] (fun z wr => ∃ i : Nat, i + s ≤ ts.length + 1 ∧ z = .int .i64 i ∧ Hid (TabW w wr g ⟨R, cR, T', cT', I, cI, P, cP, Q, cQ⟩ rs ts gc rows ts.length (fillS ts.length s i))) (fun z _ => ts.length + 1 - (intOf z).toNat)
            case atStart => exact ⟨0, by omega, rfl, HW⟩
            case round =>
              clear HW
              obtain ⟨i, hi2, rfl, HW⟩ := hrel
              by_cases hli : i + s ≤ ts.length
              · go_upto_region 14 with (fail)
                refine region_ghost (X := Value × List Nat) (by kernel_rfl) _ (fun gr => [.pointer (some ⟨g, 0, none⟩), .pointer (some ⟨g, 0, none⟩), .pointer (some ⟨g, 6, none⟩), .slice (some ⟨gc, 0, none⟩) ts.length ts.length, .int .i64 i, .pointer (some ⟨gc, i, none⟩), .slice (some ⟨rows i, 0, none⟩) (ts.length + 1) (ts.length + 1), .int .i64 i, .int .i64 s, .int .i64 ((i : Int) + (s : Int)), .pointer (some ⟨g, 0, none⟩), .int .i64 i, .int .i64 i, .int .i64 s, .int .i64 ((i : Int) + (s : Int)), gr.1, .pointer (some ⟨rows i, i + s, none⟩), undef]) [true, true, true, true, true, true, true, true, true, true, true, true, true, true, true, true, true, true] [15, 17] (InvH w wr g ⟨R, cR, T', cT', I, cI, P, cP, Q, cQ⟩ rs ts gc rows s i) (.nilFunc, []) (by kernel_rfl) (fun gr => by simp [fin, finOn, dstAt, List.range, List.range.loop, Act.put]; rfl) (fun _ => by kernel_rfl) (by kernel_rfl) (below_drew (Below.refl _ _)) ?_ ?_
                · refine ⟨fun L gr wq2 hL hb ha hI => ?_, fun L gr wq2 hL hb ha hI => ?_, fun L gr wq2 hL hb ha hI => ?_, fun L gr wq2 hL hb ha hI => ?_, fun L gr wq2 hL hb ha hI => ?_, fun L gr wq2 hL hb ha hI => ?_, fun L gr wq2 hL hb ha hI => ?_, fun L gr wq2 hL hb ha hI => ?_, fun L gr wq2 hL hb ha hI => ?_, fun L gr wq2 hL hb ha hI => ?_, fun L gr wq2 hL hb ha hI => ?_, fun L gr wq2 hL hb ha hI => ?_, fun L gr wq2 hL hb ha hI => ?_, fun L gr wq2 hL hb ha hI => ?_, fun L gr wq2 hL hb ha hI => ?_, fun L gr wq2 hL hb ha hI => ?_, fun L gr wq2 hL hb ha hI => ?_, fun L gr wq2 hL hb ha hI => ?_, trivial⟩
                  · exact Gives.plain (v := .pointer (some ⟨g, 0, none⟩)) (w' := wq2) (by kernel_rfl) rfl hI
                  · exact Gives.plain (v := .pointer (some ⟨g, 0, none⟩)) (w' := wq2) (by simp [go_sem]) rfl hI
                  · exact Gives.plain (v := .pointer (some ⟨g, 6, none⟩)) (w' := wq2) (by simp [go_sem]) rfl hI
                  · have cJ := (HW.out.keep (hI.bel (ha 17 (by kernel_rfl)))).blk.cell 6
                    exact Gives.plain (v := .slice (some ⟨gc, 0, none⟩) ts.length ts.length) (w' := wq2) (by simp [go_sem, cJ]) rfl hI
                  · exact Gives.plain (v := .int .i64 i) (w' := wq2) (by kernel_rfl) rfl hI
                  · have hkt : i < ts.length := by omega
                    exact Gives.plain (v := .pointer (some ⟨gc, i, none⟩)) (w' := wq2) (by simp [go_sem, hkt]) rfl hI
                  · obtain ⟨cs, hcs, _, hci⟩ := (HW.out.keep (hI.bel (ha 17 (by kernel_rfl)))).outer
                    have cJ := (hcs.cell i).trans (hci i (by omega))
                    exact Gives.plain (v := .slice (some ⟨rows i, 0, none⟩) (ts.length + 1) (ts.length + 1)) (w' := wq2) (by simp [go_sem, cJ]) rfl hI
                  · exact Gives.plain (v := .int .i64 i) (w' := wq2) (by kernel_rfl) rfl hI
                  · exact Gives.plain (v := .int .i64 s) (w' := wq2) (by kernel_rfl) rfl hI
                  · have hw1 : IntKind.i64.wrap ((i : Int) + (s : Int)) = (i : Int) + (s : Int) := IntWalk.i64_in _ (by omega)
                    exact Gives.plain (v := .int .i64 ((i : Int) + (s : Int))) (w' := wq2) (by simp [go_sem, hw1]) rfl hI
                  · exact Gives.plain (v := .pointer (some ⟨g, 0, none⟩)) (w' := wq2) (by kernel_rfl) rfl hI
                  · exact Gives.plain (v := .int .i64 i) (w' := wq2) (by kernel_rfl) rfl hI
                  · exact Gives.plain (v := .int .i64 i) (w' := wq2) (by kernel_rfl) rfl hI
                  · exact Gives.plain (v := .int .i64 s) (w' := wq2) (by kernel_rfl) rfl hI
                  · have hw1 : IntKind.i64.wrap ((i : Int) + (s : Int)) = (i : Int) + (s : Int) := IntWalk.i64_in _ (by omega)
                    exact Gives.plain (v := .int .i64 ((i : Int) + (s : Int))) (w' := wq2) (by simp [go_sem, hw1]) rfl hI
                  · have e15 : L 15 = false := hL
                    have e17 : L 17 = false := ha 17 (by kernel_rfl)
                    simp only [List.map, e15, e17] at hI ⊢
                    have hbe : Below wr.heap.size wr wq2 := hI
                    have h := cell_any g ⟨R, cR, T', cT', I, cI, P, cP, Q, cQ⟩ rs ts gc rows (fillS ts.length s i) i (i + s) wq2 HV.out ((HW.out.keep hbe).tab HR2.out HT2.out) (by omega) (by omega) (fun p q h1 h2 h3 h4 => by rw [fillS_iff]; omega) hn hm
                    rw [show ((i + s : Nat) : Int) = (i : Int) + (s : Int) by omega] at h
                    refine Gives.call (f := 127) (args := #[ptrV g, .int .i64 i, .int .i64 ((i : Int) + (s : Int))]) (w' := wq2) (by kernel_rfl) (h.mono ?_)
                    clear h
                    rintro e wa ⟨v, bs, rfl, ho, hsh, hb5⟩
                    exact ⟨_, rfl, (v, bs), rfl, (KeepsV.of_same ⟨.inr (.inr rfl), .inr (.inr rfl), .inr (.inr rfl), .inr (.inr rfl), .inr (.inr rfl), .inr (.inr rfl), .inr (.inr rfl), .inr (.inr rfl), .inr (.inr rfl), .inr (.inr rfl), .inr (.inr rfl), .inr (.inr rfl), .inr (.inr rfl), .inr (.inr rfl), .inr (.inr rfl), .inl rfl, .inr (.inr rfl), .inr (.inr rfl), trivial⟩), hbe.trans (hb5.mono hbe.size), ho.more hbe.size, hsh⟩
                  · have hkt : (i : Int) + (s : Int) < (ts.length : Int) + 1 := by omega
                    have hk0 : (0 : Int) ≤ (i : Int) + (s : Int) := by omega
                    have hkn : ((i : Int) + (s : Int)).toNat = i + s := by omega
                    exact Gives.plain (v := .pointer (some ⟨rows i, i + s, none⟩)) (w' := wq2) (by simp [go_sem, hkt, hk0, hkn]) rfl hI
                  · have e15 : L 15 = true := hb 15 (by kernel_rfl)
                    have e17 : L 17 = false := hL
                    simp only [List.map, e15, e17] at hI ⊢
                    obtain ⟨hbe, ho, hsh⟩ := hI
                    obtain ⟨gv, gbs⟩ := gr
                    obtain ⟨A9, c9, e9, hl9, hc9, hP9⟩ := OwnP.form ho
                    dsimp only at e9
                    subst e9
                    have hW := HW.out.keep hbe
                    obtain ⟨cs, hcs, hsz, _⟩ := hW.row i (by omega)
                    have hlt9 : i + s < cs.size := by omega
                    have cJ : wq2.cell? ⟨rows i, i + s, none⟩ = some cs[i + s] := by rw [hcs.cell]; exact Array.getElem?_eq_getElem hlt9
                    have fJ := hcs.frozen (i + s)
                    exact Gives.skip (w' := wq2.setCell ⟨rows i, i + s, none⟩ (.slice A9 gbs.length c9)) (by simp [go_sem, cJ, fJ]) ⟨_, rfl, KeepsV.same, hW.store (by omega) (by omega) hl9 hc9 hP9 hsh (fun p q h => by rw [fillS_iff] at h ⊢; omega)⟩
                · intro gr wq2 hI
                  have HW := Lib.hid (show TabW w wq2 g ⟨R, cR, T', cT', I, cI, P, cP, Q, cQ⟩ rs ts gc rows ts.length (fillS ts.length s (i + 1)) from hI)
                  clear hI
                  go_wp2_with fail
                  go_roundw
                  case rel => exact ⟨i + 1, by omega, by go_num, HW⟩
                  case measure => simp [intOf]; omega

              · have HW := Lib.hid (HW.out.sub (fill' := fillS ts.length (s + 1) 0) fun p q h => by rw [fillS_iff] at h ⊢; omega)
                go_wp2_with fail
                go_roundw
                case rel => exact ⟨s + 1, by omega, by omega, by go_num, HW⟩
                case measure => simp [intOf]; omega
          · have HW := Lib.hid (HW.out.sub (fill' := fun p q => decide (p < q) && decide (q ≤ ts.length)) fun p q h => by simp at h; rw [fillS_iff]; omega)
            go_wp2_with fail
            go_ret
            exact ⟨_, _, _, _, rfl, HW.out.tab HR2.out HT2.out, HW.out.below⟩
end Go.Proofs.YthpioplpfmlgcaaGreatDoor.Ch
