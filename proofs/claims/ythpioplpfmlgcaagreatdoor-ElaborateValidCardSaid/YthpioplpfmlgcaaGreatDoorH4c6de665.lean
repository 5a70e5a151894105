/- newFinder: the rules that may apply to tokens · Without one of the rules; how many readings there are at most: plain -/
import Derived.Test.YthpioplpfmlgcaaGreatDoorHfc86ff91
import Derived.Test.YthpioplpfmlgcaaGreatDoorH95b2a9f9
namespace Go.Proofs.YthpioplpfmlgcaaGreatDoor.Ch
open Go.RowKit
def updV {α : Type} (v : Nat → α) (c : Nat) (u : α) : Nat → α := fun i => if i = c then u else v i
/-- three rows that a call has made, each in a block of its own -/
def OwnF (w : World) (B : Nat) (v : Nat → Value) (xs : Nat → List Int) : Prop := (∀ i, i < 3 → OwnI w B (v i) (xs i)) ∧ ∀ i j, i < 3 → j < 3 → i ≠ j → ∀ b, (v i).ownBlock = some b → (v j).ownBlock ≠ some b
theorem OwnF.keep {w w' : World} {B : Nat} {v : Nat → Value} {xs : Nat → List Int} (h : OwnF w B v xs) (hb : Below w.heap.size w w') : OwnF w' B v xs := ⟨fun i hi => (h.1 i hi).keep hb, h.2⟩
theorem OwnF.grow {w w' : World} {B c : Nat} {v : Nat → Value} {xs : Nat → List Int} {u : Value} {ys : List Int} (h : OwnF w B v xs) (hc : c < 3) (hg : w.grownBy w' (v c).ownBlock) (hu : OwnI w' B u ys) (hl : u.ownBlock = (v c).ownBlock ∨ u.ownBlock = some w.heap.size) : OwnF w' B (updV v c u) (updV xs c ys) := by
  have hlt : ∀ i, i < 3 → ∀ b, (v i).ownBlock = some b → b < w.heap.size := fun i hi b hb => (World.ownsRow.lt (h.1 i hi) b hb).2
  refine ⟨fun i hi => ?_, fun i j hi hj hij b hb => ?_⟩
  · unfold updV
    by_cases e : i = c
    · rw [if_pos e, if_pos e]; exact hu
    · rw [if_neg e, if_neg e]
      refine World.ownsRow.kept (h.1 i hi) hg ?_
      cases hv : (v i).ownBlock with
      | none => exact .inl rfl
      | some b => exact .inr fun e2 => h.2 i c hi hc e b hv e2.symm
  · unfold updV at hb ⊢
    by_cases ei : i = c
    · rw [if_pos ei] at hb
      rw [if_neg (fun ej => hij (ei.trans ej.symm))]
      rcases hl with hl | hl
      · rw [hb] at hl
        exact h.2 c j hc hj (fun e => hij (ei.trans e)) b hl.symm
      · rw [hb] at hl
        obtain rfl := Option.some.inj hl
        intro e
        have := hlt j hj _ e
        omega
    · rw [if_neg ei] at hb
      by_cases ej : j = c
      · rw [if_pos ej]
        rcases hl with hl | hl
        · rw [hl]
          exact h.2 i c hi hc ei b hb
        · rw [hl]
          intro e
          have := hlt i hi b hb
          obtain rfl := Option.some.inj e
          omega
      · rw [if_neg ej]
        exact h.2 i j hi hj hij b hb
theorem grown_set (w : World) (p : Addr) (u : Value) : w.grownBy (w.setCell p u) (some p.block) := by
  have hs : (w.setCell p u).heap.size = w.heap.size := by simp [World.setCell]
  refine ⟨?_, ?_, ?_, Nat.le_of_eq hs.symm, fun i hi hne => Below.heap_setCell w p u i (fun e => hne (by rw [e]))⟩ <;> rfl
theorem OwnF.set_ {w : World} {B : Nat} {v : Nat → Value} {xs : Nat → List Int} (h : OwnF w B v xs) {p : Addr} (hp : p.block < B) (u : Value) : OwnF (w.setCell p u) B v xs := by
  refine ⟨fun i hi => World.ownsRow.kept (h.1 i hi) (grown_set w p u) ?_, h.2⟩
  cases hv : (v i).ownBlock with
  | none => exact .inl rfl
  | some b =>
    refine .inr fun e => ?_
    have := (World.ownsRow.lt (h.1 i hi) b hv).1
    have := Option.some.inj e
    omega
abbrev finV (A : Option Addr) (n cap : Nat) (T : Option Addr) (m cT : Nat) (v : Nat → Value) (jx : Int) : Array Value := #[.slice A n cap, .slice T m cT, v 0, v 1, v 2, .int .i64 jx]
abbrev finZ : Array Value := #[.slice none 0 0, .slice none 0 0, .slice none 0 0, .slice none 0 0, .slice none 0 0, .int .i64 0]
/-- the world while a number is appended to one of the three rows -/
def InvN (w : World) (A : Option Addr) (n cap : Nat) (T : Option Addr) (m cT : Nat) (v : Nat → Value) (xs : Nat → List Int) (c : Nat) (x : Int) : List Bool → Nat × Value → World → Prop
  | [bb, ba, bs], gx, wq => Blk wq w.heap.size 22 #[.slice A n cap] ∧ Blk wq (w.heap.size + 1) 167 finZ ∧ Blk wq (w.heap.size + 2) 167 (finV A n cap T m cT (if bs then updV v c gx.2 else v) (-1)) ∧
      OwnF wq (w.heap.size + 3) (if ba then updV v c gx.2 else v) (if ba then updV xs c (xs c ++ [x]) else xs) ∧ (bb = true → ba = false → Blk wq gx.1 3 #[.int .i64 x]) ∧ Below w.heap.size w wq
  | _, _, _ => False
section
variable {w : World} {A : Option Addr} {n cap : Nat} {T : Option Addr} {m cT : Nat} {v : Nat → Value} {xs : Nat → List Int} {c : Nat} {x : Int} {gx : Nat × Value} {wq w' : World} {bb ba bs : Bool}
theorem InvN.keep (h : InvN w A n cap T m cT v xs c x [bb, ba, bs] gx wq) (hb : Below wq.heap.size wq w') : InvN w A n cap T m cT v xs c x [bb, ba, bs] gx w' := by
  obtain ⟨i0, i1, i2, i3, i4, i5⟩ := h
  exact ⟨_root_.Go.Proofs.YthpioplpfmlgcaaGreatDoor.keep hb i0, _root_.Go.Proofs.YthpioplpfmlgcaaGreatDoor.keep hb i1, _root_.Go.Proofs.YthpioplpfmlgcaaGreatDoor.keep hb i2, i3.keep hb, fun h1 h2 => _root_.Go.Proofs.YthpioplpfmlgcaaGreatDoor.keep hb (i4 h1 h2), i5.trans (hb.mono i5.size)⟩
theorem InvN.build (h : InvN w A n cap T m cT v xs c x [bb, false, false] gx wq) : InvN w A n cap T m cT v xs c x [true, false, false] (wq.heap.size, gx.2) (wq.alloc (.cells #[.int .i64 x] 3)) := by
  obtain ⟨i0, i1, i2, i3, _, i5⟩ := h
  have hb := bel_alloc wq (.cells #[.int .i64 x] 3)
  exact ⟨_root_.Go.Proofs.YthpioplpfmlgcaaGreatDoor.keep hb i0, _root_.Go.Proofs.YthpioplpfmlgcaaGreatDoor.keep hb i1, _root_.Go.Proofs.YthpioplpfmlgcaaGreatDoor.keep hb i2, i3.keep hb, fun _ _ => Blk.new _ _ _, i5.trans (hb.mono i5.size)⟩
theorem InvN.append (h : InvN w A n cap T m cT v xs c x [true, false, false] gx wq) (hc : c < 3) {u : Value} (hu : OwnI w' (w.heap.size + 3) u (xs c ++ [x])) (hg : wq.grownBy w' (v c).ownBlock) (hl : u.ownBlock = (v c).ownBlock ∨ u.ownBlock = some wq.heap.size) : InvN w A n cap T m cT v xs c x [true, true, false] (gx.1, u) w' := by
  obtain ⟨i0, i1, i2, i3, _, i5⟩ := h
  have hlo : ∀ b, (v c).ownBlock = some b → w.heap.size + 3 ≤ b := fun b hb => (World.ownsRow.lt (i3.1 c hc) b hb).1
  have far : ∀ k, k < w.heap.size + 3 → some k ≠ (v c).ownBlock := fun k hk e => by have := hlo k e.symm; omega
  exact ⟨i0.grown hg (far _ (by omega)), i1.grown hg (far _ (by omega)), i2.grown hg (far _ (by omega)), i3.grow hc hg hu hl, (fun _ h => by cases h), i5.grown hg i5.size (fun k hk => by have := hlo k hk; omega)⟩
theorem InvN.store (h : InvN w A n cap T m cT v xs c x [true, true, false] gx wq) (hc : c < 3) : InvN w A n cap T m cT v xs c x [true, true, true] gx (wq.setCell ⟨w.heap.size + 2, 2 + c, none⟩ gx.2) := by
  obtain ⟨i0, i1, i2, i3, _, i5⟩ := h
  refine ⟨i0.far (by show _ ≠ w.heap.size + 2; omega) _, i1.far (by show _ ≠ w.heap.size + 2; omega) _, ?_, i3.set_ (by show w.heap.size + 2 < _; omega) _, (fun _ h => by cases h), i5.setCell (p := ⟨w.heap.size + 2, 2 + c, none⟩) (by show w.heap.size ≤ w.heap.size + 2; omega) _⟩
  have := i2.set_ (2 + c) gx.2
  match c, hc with
  | 0, _ => exact this
  | 1, _ => exact this
  | 2, _ => exact this
theorem InvN.done (h : InvN w A n cap T m cT v xs c x [true, true, true] gx wq) : InvN w A n cap T m cT (updV v c gx.2) (updV xs c (xs c ++ [x])) 0 0 [false, false, false] (0, .nilFunc) wq := by
  obtain ⟨i0, i1, i2, i3, _, i5⟩ := h
  exact ⟨i0, i1, i2, i3, (fun h => by cases h), i5⟩
theorem InvN.again (h : InvN w A n cap T m cT v xs c x [false, false, false] gx wq) (c' : Nat) (x' : Int) (gx' : Nat × Value) : InvN w A n cap T m cT v xs c' x' [false, false, false] gx' wq := by
  obtain ⟨i0, i1, i2, i3, _, i5⟩ := h
  exact ⟨i0, i1, i2, i3, (fun h => by cases h), i5⟩
end
theorem fin_of {w : World} {B : Nat} {v : Value} {xs : List Int} {m : Nat} (h : OwnI w B v xs) (hm : xs.length = m) : ∃ I cI, v = .slice I m cI ∧ IntsO w I xs := by
  obtain ⟨I, cI, h1, _, _, h2⟩ := h.form
  exact ⟨I, cI, by rw [h1, hm], h2⟩
theorem ints_of {w : World} {B : Nat} {v : Value} {xs : List Int} {I : Option Addr} {m cI : Nat} (h : OwnI w B v xs) (hv : v = .slice I m cI) : IntsO w I xs := by
  obtain ⟨I', cI', h1, _, _, h2⟩ := h.form
  rw [hv] at h1
  injection h1 with h3
  rw [h3]
  exact h2
def FinP (A T : Option Addr) (rs : List Rul) (ts : List ByteArray) (w : World) (e : Ending) (w' : World) : Prop := ∃ F : Fin, e = .returned (.agg (F.c rs.length ts.length (findI rs 4 []))) ∧ FinAt w' F rs ts ∧ (F.R = A ∧ F.T = T) ∧ Below w.heap.size w w'
theorem finds_snoc {rs : List Rul} {ts : List ByteArray} {kind : Int} {k : Nat} {t : ByteArray} (ht : ts[k]? = some t) : (findsL rs ts kind).take (k + 1) = (findsL rs ts kind).take k ++ [findI rs kind t.toList] := by
  unfold findsL
  rw [List.take_add_one, List.getElem?_map, ht]
  rfl
def xsN (rs : List Rul) (ts : List ByteArray) (k : Nat) : Nat → List Int := fun i => (findsL rs ts (i + 1 : Nat)).take k
theorem xsN_len {rs : List Rul} {ts : List ByteArray} {k i : Nat} (hk : k ≤ ts.length) : (xsN rs ts k i).length = k := by unfold xsN; rw [List.length_take, finds_len]; omega
theorem xsN_succ {rs : List Rul} {ts : List ByteArray} {k : Nat} {t : ByteArray} (ht : ts[k]? = some t) : ∀ i, i < 3 → (updV (updV (updV (xsN rs ts k) 0 (xsN rs ts k 0 ++ [findI rs 1 t.toList])) 1 (updV (xsN rs ts k) 0 (xsN rs ts k 0 ++ [findI rs 1 t.toList]) 1 ++ [findI rs 2 t.toList])) 2 (updV (updV (xsN rs ts k) 0 (xsN rs ts k 0 ++ [findI rs 1 t.toList])) 1 (updV (xsN rs ts k) 0 (xsN rs ts k 0 ++ [findI rs 1 t.toList]) 1 ++ [findI rs 2 t.toList]) 2 ++ [findI rs 3 t.toList])) i = xsN rs ts (k + 1) i := by
  intro i hi
  match i, hi with
  | 0, _ => exact (finds_snoc (kind := 1) ht).symm
  | 1, _ => exact (finds_snoc (kind := 2) ht).symm
  | 2, _ => exact (finds_snoc (kind := 3) ht).symm
theorem OwnF.same {w : World} {B : Nat} {v : Nat → Value} {xs ys : Nat → List Int} (h : OwnF w B v xs) (he : ∀ i, i < 3 → xs i = ys i) : OwnF w B v ys := ⟨fun i hi => by rw [← he i hi]; exact h.1 i hi, h.2⟩
theorem InvN.drew {w : World} {A : Option Addr} {n cap : Nat} {T : Option Addr} {m cT : Nat} {v : Nat → Value} {xs : Nat → List Int} {c : Nat} {x : Int} {gx : Nat × Value} {wq : World} {bb ba bs : Bool} (h : InvN w A n cap T m cT v xs c x [bb, ba, bs] gx wq) : InvN w A n cap T m cT v xs c x [bb, ba, bs] gx wq.drew := by
  obtain ⟨i0, i1, i2, i3, i4, i5⟩ := h
  exact ⟨i0, i1, i2, i3, i4, below_drew i5⟩
set_option maxRecDepth 100000 in
set_option maxHeartbeats 4000000 in
theorem newFinder_any (A T : Option Addr) (cap cT : Nat) (rs : List Rul) (ts : List ByteArray) (w : World) (hR : RulsAt w A rs) (hT : ToksAt w T ts) (hn : rs.length ≤ 1000000) (hm : ts.length ≤ 1000000) : Calls Tryz.prog 126 #[.slice A rs.length cap, .slice T ts.length cT] w (FinP A T rs ts w) := by
  obtain ⟨i0, hi, hz0, hz1, hz2⟩ := info_parts info_int
  have HR := Lib.hid hR
  have HT := Lib.hid hT
  have hmf : ∀ (fn : Fn) (first cap : Array Value) (w : World), (Instr.makeFunc fn first cap).run Tryz.prog w = .ok (.func fn first cap) w := fun _ _ _ _ => rfl
  clear hR hT
  go_enter Tryz.func126, Tryz.ntmps126
  go_wp2_with fail
  have HI : Hid (InvN w A rs.length cap T ts.length cT (fun _ => .slice none 0 0) (xsN rs ts 0) 0 0 [false, false, false] (0, .nilFunc) (((w.alloc (.cells #[.slice A rs.length cap] 22)).alloc (.cells finZ 167)).alloc (.cells (finV A rs.length cap T ts.length cT (fun _ => .slice none 0 0) (-1)) 167))) := by
    have hb := bel_alloc w (.cells #[.slice A rs.length cap] 22)
    refine ⟨((Blk.new w _ _).alloc _).alloc _, ?_, ?_, ⟨fun i _ => ?_, fun i j _ _ _ b hb => by cases hb⟩, (fun h => by cases h), (hb.alloc hb.size _).alloc (by simp; omega) _⟩
    · have := (Blk.new (w.alloc (.cells #[.slice A rs.length cap] 22)) 167 finZ).alloc (.cells (finV A rs.length cap T ts.length cT (fun _ => .slice none 0 0) (-1)) 167)
      simpa using this
    · have := Blk.new ((w.alloc (.cells #[.slice A rs.length cap] 22)).alloc (.cells finZ 167)) 167 (finV A rs.length cap T ts.length cT (fun _ => .slice none 0 0) (-1))
      simpa using this
    · show OwnI _ _ (.slice none 0 0) (xsN rs ts 0 i)
      rw [show xsN rs ts 0 i = [] from List.take_zero ..]
      exact OwnI.nil _ _
  generalize ((w.alloc (.cells _ 22)).alloc (.cells _ 167)).alloc (.cells _ 167) = w1 at *
  clear hmf
  go_loopw [15] (fun i wr => ∃ (k : Nat) (v : Nat → Value), k ≤ ts.length ∧ i = .int .i64 k ∧ Hid (InvN w A rs.length cap T ts.length cT v (xsN rs ts k) 0 0 [false, false, false] (0, .nilFunc) wr)) (fun i _ => ts.length - (intOf i).toNat)
  case atStart => exact ⟨0, _, by omega, rfl, HI⟩
  case round =>
    clear HI
    obtain ⟨k, v, hk, rfl, HI⟩ := hrel
    by_cases hlt : k < ts.length
    · obtain ⟨s, hs⟩ : ∃ s, ts[k]? = some s := ⟨_, List.getElem?_eq_getElem hlt⟩
      obtain ⟨hf, ad, rfl, hadl, c0⟩ := (HT.out.keep HI.out.2.2.2.2.2) k s hs
      have HSN := Lib.hid (xsN_succ (rs := rs) hs)
      have HX0 := Lib.hid (xsN_len (rs := rs) (ts := ts) (k := k) (i := 0) hk)
      have HX1 := Lib.hid (show (updV (xsN rs ts k) 0 (xsN rs ts k 0 ++ [findI rs 1 s.toList]) 1).length = k from xsN_len (rs := rs) (i := 1) hk)
      have HX2 := Lib.hid (show (updV (updV (xsN rs ts k) 0 (xsN rs ts k 0 ++ [findI rs 1 s.toList])) 1 (updV (xsN rs ts k) 0 (xsN rs ts k 0 ++ [findI rs 1 s.toList]) 1 ++ [findI rs 2 s.toList]) 2).length = k from xsN_len (rs := rs) (i := 2) hk)
      clear hs hf
      go_upto_region 6 with (fail)
      clear c0
      refine region_ghost (X := Nat × Value) (by kernel_rfl) _ (fun gx0 => [.pointer (some ⟨w.heap.size + 2, 2, none⟩), (v 0), .func (.func 144) #[] #[.pointer (some ⟨w.heap.size, 0, none⟩)], .string s, .int .i64 (findI rs 1 s.toList), .slice (some ⟨gx0.1, 0, none⟩) 1 1, gx0.2, .pointer (some ⟨w.heap.size + 2, 2, none⟩), undef]) [true, true, true, true, true, true, true, true, true] [5, 6, 8] (InvN w A rs.length cap (some ad) ts.length cT v (xsN rs ts k) 0 (findI rs 1 s.toList)) (0, .nilFunc) (by kernel_rfl) (fun gx0 => by simp [fin, finOn, dstAt, List.range, List.range.loop, Act.put]; rfl) (fun _ => by kernel_rfl) (by kernel_rfl) (InvN.drew (HI.out.again _ _ _)) ?_ ?_
      · refine ⟨fun L gx0 wq0 hL hb ha hI => ?_, fun L gx0 wq0 hL hb ha hI => ?_, fun L gx0 wq0 hL hb ha hI => ?_, fun L gx0 wq0 hL hb ha hI => ?_, fun L gx0 wq0 hL hb ha hI => ?_, fun L gx0 wq0 hL hb ha hI => ?_, fun L gx0 wq0 hL hb ha hI => ?_, fun L gx0 wq0 hL hb ha hI => ?_, fun L gx0 wq0 hL hb ha hI => ?_, trivial⟩
        · exact Gives.plain (v := .pointer (some ⟨w.heap.size + 2, 2, none⟩)) (w' := wq0) (by simp [go_sem]) rfl hI
        · have e8 : L 8 = false := ha 8 (by kernel_rfl)
          have cJ : wq0.cell? ⟨w.heap.size + 2, 2, none⟩ = some (v 0) := by
            have h := hI.2.2.1.cell 2
            simp only [e8] at h
            exact h
          exact Gives.plain (v := v 0) (w' := wq0) (by simp [go_sem, cJ]) rfl hI
        · exact Gives.plain (v := .func (.func 144) #[] #[.pointer (some ⟨w.heap.size, 0, none⟩)]) (w' := wq0) (by kernel_rfl) rfl hI
        · exact Gives.plain (v := .string s) (w' := wq0) (by kernel_rfl) rfl hI
        · refine Gives.call (f := 144) (args := #[.int .i64 1, .string s, .pointer (some ⟨w.heap.size, 0, none⟩)]) (w' := wq0) (by kernel_rfl) ((find_any w.heap.size A cap rs 1 s wq0 hI.1 (HR.out.keep hI.2.2.2.2.2) hn).mono ?_)
          rintro e wa ⟨rfl, hb5⟩
          exact ⟨_, rfl, gx0, rfl, KeepsV.same, InvN.keep hI hb5⟩
        · have e5 : L 5 = false := hL
          have e6 : L 6 = false := ha 6 (by kernel_rfl)
          have e8 : L 8 = false := ha 8 (by kernel_rfl)
          simp only [List.map, e5, e6, e8] at hI ⊢
          exact Gives.value (v := .slice (some ⟨wq0.heap.size, 0, none⟩) 1 1) (w' := wq0.alloc (.cells #[.int .i64 (findI rs 1 s.toList)] 3)) (by simp [go_sem]) ⟨(wq0.heap.size, gx0.2), rfl, (KeepsV.of_same ⟨.inr (.inr rfl), .inr (.inr rfl), .inr (.inr rfl), .inr (.inr rfl), .inr (.inr rfl), .inl rfl, (by first | exact .inr (.inr rfl) | exact .inr (.inl (by kernel_rfl))), .inr (.inr rfl), .inr (.inr rfl), trivial⟩), InvN.build hI⟩
        · have e5 : L 5 = true := hb 5 (by kernel_rfl)
          have e6 : L 6 = false := hL
          have e8 : L 8 = false := ha 8 (by kernel_rfl)
          simp only [List.map, e5, e6, e8] at hI ⊢
          have hO : OwnI wq0 (w.heap.size + 3) (v 0) ((xsN rs ts k) 0) := hI.2.2.2.1.1 0 (by omega)
          have hB := hI.2.2.2.2.1 rfl rfl
          have hS := hI.2.2.2.2.2.size
          have hX := HX0.out
          have hZ : w.heap.size + 3 ≤ wq0.heap.size := hI.2.2.1.lt
          exact gives_append (.tmp 20) (.tmp 24) 32 rfl (w.heap.size + 3) 3 i0 (.int .i64 0) 1 8 Tryz.underlying32 hi hz0 hz1 hz2 rfl (by decide) (v 0) _ _ rfl hO wq0.heap.size (some ⟨gx0.1, 0, none⟩) 1 1 [.int .i64 (findI rs 1 s.toList)] rfl (reads_cell hB) (by intro u hu; simp at hu; subst hu; rfl) (by rw [hX]; unfold maxLen; omega) (by rw [hX]; omega) hZ (fun v' w' h2 h3 h4 => ⟨(gx0.1, v'), rfl, (KeepsV.of_same ⟨.inr (.inr rfl), .inr (.inr rfl), .inr (.inr rfl), .inr (.inr rfl), .inr (.inr rfl), (by first | exact .inr (.inr rfl) | exact .inr (.inl (by kernel_rfl))), .inl rfl, .inr (.inr rfl), .inr (.inr rfl), trivial⟩), InvN.append hI (by omega) (ints_snoc rfl h2) h3 h4⟩)
        · exact Gives.plain (v := .pointer (some ⟨w.heap.size + 2, 2, none⟩)) (w' := wq0) (by simp [go_sem]) rfl hI
        · have e5 : L 5 = true := hb 5 (by kernel_rfl)
          have e6 : L 6 = true := hb 6 (by kernel_rfl)
          have e8 : L 8 = false := hL
          simp only [List.map, e5, e6, e8] at hI ⊢
          have cJ : wq0.cell? ⟨w.heap.size + 2, 2, none⟩ = some (v 0) := hI.2.2.1.cell 2
          have fJ := hI.2.2.1.frozen 2
          obtain ⟨gb, gu⟩ := gx0
          obtain ⟨A5, c5, e9, _⟩ := (show OwnI wq0 (w.heap.size + 3) gu ((xsN rs ts k) 0 ++ [(findI rs 1 s.toList)]) from hI.2.2.2.1.1 0 (by omega)).form
          subst e9
          exact Gives.skip (w' := wq0.setCell ⟨w.heap.size + 2, 2, none⟩ (.slice A5 ((xsN rs ts k) 0 ++ [(findI rs 1 s.toList)]).length c5)) (by simp [go_sem, cJ, fJ]) ⟨_, rfl, KeepsV.same, InvN.store hI (by omega)⟩
      · intro gx0 wq0 hI
        have HI := Lib.hid (InvN.done hI)
        clear hI
        go_upto_region 7 with (fail)
        refine region_ghost (X := Nat × Value) (by kernel_rfl) _ (fun gx1 => [.pointer (some ⟨w.heap.size + 2, 3, none⟩), ((updV v 0 gx0.2) 1), .func (.func 144) #[] #[.pointer (some ⟨w.heap.size, 0, none⟩)], .string s, .int .i64 (findI rs 2 s.toList), .slice (some ⟨gx1.1, 0, none⟩) 1 1, gx1.2, .pointer (some ⟨w.heap.size + 2, 3, none⟩), undef]) [true, true, true, true, true, true, true, true, true] [5, 6, 8] (InvN w A rs.length cap (some ad) ts.length cT (updV v 0 gx0.2) (updV (xsN rs ts k) 0 (xsN rs ts k 0 ++ [findI rs 1 s.toList])) 1 (findI rs 2 s.toList)) (0, .nilFunc) (by kernel_rfl) (fun gx1 => by simp [fin, finOn, dstAt, List.range, List.range.loop, Act.put]; rfl) (fun _ => by kernel_rfl) (by kernel_rfl) (InvN.drew (HI.out.again _ _ _)) ?_ ?_
        · refine ⟨fun L gx1 wq1 hL hb ha hI => ?_, fun L gx1 wq1 hL hb ha hI => ?_, fun L gx1 wq1 hL hb ha hI => ?_, fun L gx1 wq1 hL hb ha hI => ?_, fun L gx1 wq1 hL hb ha hI => ?_, fun L gx1 wq1 hL hb ha hI => ?_, fun L gx1 wq1 hL hb ha hI => ?_, fun L gx1 wq1 hL hb ha hI => ?_, fun L gx1 wq1 hL hb ha hI => ?_, trivial⟩
          · exact Gives.plain (v := .pointer (some ⟨w.heap.size + 2, 3, none⟩)) (w' := wq1) (by simp [go_sem]) rfl hI
          · have e8 : L 8 = false := ha 8 (by kernel_rfl)
            have cJ : wq1.cell? ⟨w.heap.size + 2, 3, none⟩ = some ((updV v 0 gx0.2) 1) := by
              have h := hI.2.2.1.cell 3
              simp only [e8] at h
              exact h
            exact Gives.plain (v := (updV v 0 gx0.2) 1) (w' := wq1) (by simp [go_sem, cJ]) rfl hI
          · exact Gives.plain (v := .func (.func 144) #[] #[.pointer (some ⟨w.heap.size, 0, none⟩)]) (w' := wq1) (by kernel_rfl) rfl hI
          · exact Gives.plain (v := .string s) (w' := wq1) (by kernel_rfl) rfl hI
          · refine Gives.call (f := 144) (args := #[.int .i64 2, .string s, .pointer (some ⟨w.heap.size, 0, none⟩)]) (w' := wq1) (by kernel_rfl) ((find_any w.heap.size A cap rs 2 s wq1 hI.1 (HR.out.keep hI.2.2.2.2.2) hn).mono ?_)
            rintro e wa ⟨rfl, hb5⟩
            exact ⟨_, rfl, gx1, rfl, KeepsV.same, InvN.keep hI hb5⟩
          · have e5 : L 5 = false := hL
            have e6 : L 6 = false := ha 6 (by kernel_rfl)
            have e8 : L 8 = false := ha 8 (by kernel_rfl)
            simp only [List.map, e5, e6, e8] at hI ⊢
            exact Gives.value (v := .slice (some ⟨wq1.heap.size, 0, none⟩) 1 1) (w' := wq1.alloc (.cells #[.int .i64 (findI rs 2 s.toList)] 3)) (by simp [go_sem]) ⟨(wq1.heap.size, gx1.2), rfl, (KeepsV.of_same ⟨.inr (.inr rfl), .inr (.inr rfl), .inr (.inr rfl), .inr (.inr rfl), .inr (.inr rfl), .inl rfl, (by first | exact .inr (.inr rfl) | exact .inr (.inl (by kernel_rfl))), .inr (.inr rfl), .inr (.inr rfl), trivial⟩), InvN.build hI⟩
          · have e5 : L 5 = true := hb 5 (by kernel_rfl)
            have e6 : L 6 = false := hL
            have e8 : L 8 = false := ha 8 (by kernel_rfl)
            simp only [List.map, e5, e6, e8] at hI ⊢
            have hO : OwnI wq1 (w.heap.size + 3) ((updV v 0 gx0.2) 1) ((updV (xsN rs ts k) 0 (xsN rs ts k 0 ++ [findI rs 1 s.toList])) 1) := hI.2.2.2.1.1 1 (by omega)
            have hB := hI.2.2.2.2.1 rfl rfl
            have hS := hI.2.2.2.2.2.size
            have hX := HX1.out
            have hZ : w.heap.size + 3 ≤ wq1.heap.size := hI.2.2.1.lt
            exact gives_append (.tmp 28) (.tmp 32) 32 rfl (w.heap.size + 3) 3 i0 (.int .i64 0) 1 8 Tryz.underlying32 hi hz0 hz1 hz2 rfl (by decide) ((updV v 0 gx0.2) 1) _ _ rfl hO wq1.heap.size (some ⟨gx1.1, 0, none⟩) 1 1 [.int .i64 (findI rs 2 s.toList)] rfl (reads_cell hB) (by intro u hu; simp at hu; subst hu; rfl) (by rw [hX]; unfold maxLen; omega) (by rw [hX]; omega) hZ (fun v' w' h2 h3 h4 => ⟨(gx1.1, v'), rfl, (KeepsV.of_same ⟨.inr (.inr rfl), .inr (.inr rfl), .inr (.inr rfl), .inr (.inr rfl), .inr (.inr rfl), (by first | exact .inr (.inr rfl) | exact .inr (.inl (by kernel_rfl))), .inl rfl, .inr (.inr rfl), .inr (.inr rfl), trivial⟩), InvN.append hI (by omega) (ints_snoc rfl h2) h3 h4⟩)
          · exact Gives.plain (v := .pointer (some ⟨w.heap.size + 2, 3, none⟩)) (w' := wq1) (by simp [go_sem]) rfl hI
          · have e5 : L 5 = true := hb 5 (by kernel_rfl)
            have e6 : L 6 = true := hb 6 (by kernel_rfl)
            have e8 : L 8 = false := hL
            simp only [List.map, e5, e6, e8] at hI ⊢
            have cJ : wq1.cell? ⟨w.heap.size + 2, 3, none⟩ = some ((updV v 0 gx0.2) 1) := hI.2.2.1.cell 3
            have fJ := hI.2.2.1.frozen 3
            obtain ⟨gb, gu⟩ := gx1
            obtain ⟨A5, c5, e9, _⟩ := (show OwnI wq1 (w.heap.size + 3) gu ((updV (xsN rs ts k) 0 (xsN rs ts k 0 ++ [findI rs 1 s.toList])) 1 ++ [(findI rs 2 s.toList)]) from hI.2.2.2.1.1 1 (by omega)).form
            subst e9
            exact Gives.skip (w' := wq1.setCell ⟨w.heap.size + 2, 3, none⟩ (.slice A5 ((updV (xsN rs ts k) 0 (xsN rs ts k 0 ++ [findI rs 1 s.toList])) 1 ++ [(findI rs 2 s.toList)]).length c5)) (by simp [go_sem, cJ, fJ]) ⟨_, rfl, KeepsV.same, InvN.store hI (by omega)⟩
        · intro gx1 wq1 hI
          have HI := Lib.hid (InvN.done hI)
          clear hI
          go_upto_region 8 with (fail)
          refine region_ghost (X := Nat × Value) (by kernel_rfl) _ (fun gx2 => [.pointer (some ⟨w.heap.size + 2, 4, none⟩), ((updV (updV v 0 gx0.2) 1 gx1.2) 2), .func (.func 144) #[] #[.pointer (some ⟨w.heap.size, 0, none⟩)], .string s, .int .i64 (findI rs 3 s.toList), .slice (some ⟨gx2.1, 0, none⟩) 1 1, gx2.2, .pointer (some ⟨w.heap.size + 2, 4, none⟩), undef]) [true, true, true, true, true, true, true, true, true] [5, 6, 8] (InvN w A rs.length cap (some ad) ts.length cT (updV (updV v 0 gx0.2) 1 gx1.2) (updV (updV (xsN rs ts k) 0 (xsN rs ts k 0 ++ [findI rs 1 s.toList])) 1 ((updV (xsN rs ts k) 0 (xsN rs ts k 0 ++ [findI rs 1 s.toList])) 1 ++ [findI rs 2 s.toList])) 2 (findI rs 3 s.toList)) (0, .nilFunc) (by kernel_rfl) (fun gx2 => by simp [fin, finOn, dstAt, List.range, List.range.loop, Act.put]; rfl) (fun _ => by kernel_rfl) (by kernel_rfl) (InvN.drew (HI.out.again _ _ _)) ?_ ?_
          · refine ⟨fun L gx2 wq2 hL hb ha hI => ?_, fun L gx2 wq2 hL hb ha hI => ?_, fun L gx2 wq2 hL hb ha hI => ?_, fun L gx2 wq2 hL hb ha hI => ?_, fun L gx2 wq2 hL hb ha hI => ?_, fun L gx2 wq2 hL hb ha hI => ?_, fun L gx2 wq2 hL hb ha hI => ?_, fun L gx2 wq2 hL hb ha hI => ?_, fun L gx2 wq2 hL hb ha hI => ?_, trivial⟩
            · exact Gives.plain (v := .pointer (some ⟨w.heap.size + 2, 4, none⟩)) (w' := wq2) (by simp [go_sem]) rfl hI
            · have e8 : L 8 = false := ha 8 (by kernel_rfl)
              have cJ : wq2.cell? ⟨w.heap.size + 2, 4, none⟩ = some ((updV (updV v 0 gx0.2) 1 gx1.2) 2) := by
                have h := hI.2.2.1.cell 4
                simp only [e8] at h
                exact h
              exact Gives.plain (v := (updV (updV v 0 gx0.2) 1 gx1.2) 2) (w' := wq2) (by simp [go_sem, cJ]) rfl hI
            · exact Gives.plain (v := .func (.func 144) #[] #[.pointer (some ⟨w.heap.size, 0, none⟩)]) (w' := wq2) (by kernel_rfl) rfl hI
            · exact Gives.plain (v := .string s) (w' := wq2) (by kernel_rfl) rfl hI
            · refine Gives.call (f := 144) (args := #[.int .i64 3, .string s, .pointer (some ⟨w.heap.size, 0, none⟩)]) (w' := wq2) (by kernel_rfl) ((find_any w.heap.size A cap rs 3 s wq2 hI.1 (HR.out.keep hI.2.2.2.2.2) hn).mono ?_)
              rintro e wa ⟨rfl, hb5⟩
              exact ⟨_, rfl, gx2, rfl, KeepsV.same, InvN.keep hI hb5⟩
            · have e5 : L 5 = false := hL
              have e6 : L 6 = false := ha 6 (by kernel_rfl)
              have e8 : L 8 = false := ha 8 (by kernel_rfl)
              simp only [List.map, e5, e6, e8] at hI ⊢
              exact Gives.value (v := .slice (some ⟨wq2.heap.size, 0, none⟩) 1 1) (w' := wq2.alloc (.cells #[.int .i64 (findI rs 3 s.toList)] 3)) (by simp [go_sem]) ⟨(wq2.heap.size, gx2.2), rfl, (KeepsV.of_same ⟨.inr (.inr rfl), .inr (.inr rfl), .inr (.inr rfl), .inr (.inr rfl), .inr (.inr rfl), .inl rfl, (by first | exact .inr (.inr rfl) | exact .inr (.inl (by kernel_rfl))), .inr (.inr rfl), .inr (.inr rfl), trivial⟩), InvN.build hI⟩
            · have e5 : L 5 = true := hb 5 (by kernel_rfl)
              have e6 : L 6 = false := hL
              have e8 : L 8 = false := ha 8 (by kernel_rfl)
              simp only [List.map, e5, e6, e8] at hI ⊢
              have hO : OwnI wq2 (w.heap.size + 3) ((updV (updV v 0 gx0.2) 1 gx1.2) 2) ((updV (updV (xsN rs ts k) 0 (xsN rs ts k 0 ++ [findI rs 1 s.toList])) 1 ((updV (xsN rs ts k) 0 (xsN rs ts k 0 ++ [findI rs 1 s.toList])) 1 ++ [findI rs 2 s.toList])) 2) := hI.2.2.2.1.1 2 (by omega)
              have hB := hI.2.2.2.2.1 rfl rfl
              have hS := hI.2.2.2.2.2.size
              have hX := HX2.out
              have hZ : w.heap.size + 3 ≤ wq2.heap.size := hI.2.2.1.lt
              exact gives_append (.tmp 36) (.tmp 40) 32 rfl (w.heap.size + 3) 3 i0 (.int .i64 0) 1 8 Tryz.underlying32 hi hz0 hz1 hz2 rfl (by decide) ((updV (updV v 0 gx0.2) 1 gx1.2) 2) _ _ rfl hO wq2.heap.size (some ⟨gx2.1, 0, none⟩) 1 1 [.int .i64 (findI rs 3 s.toList)] rfl (reads_cell hB) (by intro u hu; simp at hu; subst hu; rfl) (by rw [hX]; unfold maxLen; omega) (by rw [hX]; omega) hZ (fun v' w' h2 h3 h4 => ⟨(gx2.1, v'), rfl, (KeepsV.of_same ⟨.inr (.inr rfl), .inr (.inr rfl), .inr (.inr rfl), .inr (.inr rfl), .inr (.inr rfl), (by first | exact .inr (.inr rfl) | exact .inr (.inl (by kernel_rfl))), .inl rfl, .inr (.inr rfl), .inr (.inr rfl), trivial⟩), InvN.append hI (by omega) (ints_snoc rfl h2) h3 h4⟩)
            · exact Gives.plain (v := .pointer (some ⟨w.heap.size + 2, 4, none⟩)) (w' := wq2) (by simp [go_sem]) rfl hI
            · have e5 : L 5 = true := hb 5 (by kernel_rfl)
              have e6 : L 6 = true := hb 6 (by kernel_rfl)
              have e8 : L 8 = false := hL
              simp only [List.map, e5, e6, e8] at hI ⊢
              have cJ : wq2.cell? ⟨w.heap.size + 2, 4, none⟩ = some ((updV (updV v 0 gx0.2) 1 gx1.2) 2) := hI.2.2.1.cell 4
              have fJ := hI.2.2.1.frozen 4
              obtain ⟨gb, gu⟩ := gx2
              obtain ⟨A5, c5, e9, _⟩ := (show OwnI wq2 (w.heap.size + 3) gu ((updV (updV (xsN rs ts k) 0 (xsN rs ts k 0 ++ [findI rs 1 s.toList])) 1 ((updV (xsN rs ts k) 0 (xsN rs ts k 0 ++ [findI rs 1 s.toList])) 1 ++ [findI rs 2 s.toList])) 2 ++ [(findI rs 3 s.toList)]) from hI.2.2.2.1.1 2 (by omega)).form
              subst e9
              exact Gives.skip (w' := wq2.setCell ⟨w.heap.size + 2, 4, none⟩ (.slice A5 ((updV (updV (xsN rs ts k) 0 (xsN rs ts k 0 ++ [findI rs 1 s.toList])) 1 ((updV (xsN rs ts k) 0 (xsN rs ts k 0 ++ [findI rs 1 s.toList])) 1 ++ [findI rs 2 s.toList])) 2 ++ [(findI rs 3 s.toList)]).length c5)) (by simp [go_sem, cJ, fJ]) ⟨_, rfl, KeepsV.same, InvN.store hI (by omega)⟩
          · intro gx2 wq2 hI
            have HI := Lib.hid (InvN.done hI)
            clear hI
            go_wp2_with fail
            go_roundw
            case rel => exact ⟨k + 1, _, by omega, by go_num, Lib.hid ⟨HI.out.1, HI.out.2.1, HI.out.2.2.1, HI.out.2.2.2.1.same HSN.out, (fun h => by cases h), HI.out.2.2.2.2.2⟩⟩
            case measure => simp [intOf]; omega
    · obtain rfl : k = ts.length := by omega
      have K2 : Hid (Blk wr (w.heap.size + 1 + 1) 167 #[.slice A rs.length cap, .slice T ts.length cT, v 0, v 1, v 2, .int .i64 (-1)]) := Lib.hid HI.out.2.2.1
      have K1 := Lib.hid HI.out.2.1
      have K0 := Lib.hid HI.out.1
      have H0 := Lib.hid HI.out.2.2.2.2.2
      have HO : Hid (OwnF wr (w.heap.size + 3) v (xsN rs ts ts.length)) := Lib.hid HI.out.2.2.2.1
      clear HI
      obtain ⟨I, cI, e0, hI0⟩ := fin_of (show OwnI wr (w.heap.size + 3) (v 0) (xsN rs ts ts.length 0) from HO.out.1 0 (by omega)) (xsN_len (Nat.le_refl _))
      obtain ⟨J, cJ, e1, hI1⟩ := fin_of (show OwnI wr (w.heap.size + 3) (v 1) (xsN rs ts ts.length 1) from HO.out.1 1 (by omega)) (xsN_len (Nat.le_refl _))
      obtain ⟨M, cM, e2, hI2⟩ := fin_of (show OwnI wr (w.heap.size + 3) (v 2) (xsN rs ts ts.length 2) from HO.out.1 2 (by omega)) (xsN_len (Nat.le_refl _))
      have HKEY : Hid (∀ W, OwnF W (w.heap.size + 3) v (xsN rs ts ts.length) → Below w.heap.size w W → FinAt W ⟨A, cap, T, cT, I, cI, J, cJ, M, cM⟩ rs ts) := fun W hO hB => by
        refine ⟨HR.out.keep hB, HT.out.keep hB, ?_, ?_, ?_⟩
        · have := ints_of (hO.1 0 (by omega)) e0
          rwa [show xsN rs ts ts.length 0 = findsL rs ts 1 from List.take_of_length_le (by rw [finds_len]; omega)] at this
        · have := ints_of (hO.1 1 (by omega)) e1
          rwa [show xsN rs ts ts.length 1 = findsL rs ts 2 from List.take_of_length_le (by rw [finds_len]; omega)] at this
        · have := ints_of (hO.1 2 (by omega)) e2
          rwa [show xsN rs ts ts.length 2 = findsL rs ts 3 from List.take_of_length_le (by rw [finds_len]; omega)] at this
      rw [e0, e1, e2] at K2
      clear e0 e1 e2 hI0 hI1 hI2
      go_wp2_with fail
      refine (find_any w.heap.size A cap rs 4 ⟨#[]⟩ wr K0.out (HR.out.keep H0.out) hn).mono ?_
      rintro e w2 ⟨rfl, hb⟩
      have K2 := Lib.hid (keep hb K2.out)
      have K1 := Lib.hid (keep hb K1.out)
      have HO := Lib.hid (HO.out.keep hb)
      have H0 := Lib.hid (H0.out.trans (hb.mono H0.out.size))
      clear hb K0
      rw [show (⟨#[]⟩ : ByteArray).toList = [] from by rw [ByteArray.toList_eq]]
      have f2 := K2.out.frozen
      have c2 := K2.out.cell
      have f1 := K1.out.frozen
      have c1 := K1.out.cell
      go_wp2_with fail
      refine bodyPost_ret (v := .agg #[.slice A rs.length cap, .slice T ts.length cT, .slice I ts.length cI, .slice J ts.length cJ, .slice M ts.length cM, .int .i64 (findI rs 4 [])]) (by simp [results, Tryz.results126, go_sem, c1]) rfl ⟨⟨A, cap, T, cT, I, cI, J, cJ, M, cM⟩, rfl, ?_, ⟨rfl, rfl⟩, ?_⟩
      · refine HKEY.out _ ?_ ?_
        · repeat' (first | (with_reducible exact HO.out) | (with_reducible refine OwnF.set_ ?_ ?_ _) | (show _ < _; dsimp only; omega))
        · repeat' (first | (with_reducible exact H0.out) | (with_reducible refine Below.setCell ?_ ?_ _) | (show _ ≤ _; dsimp only; omega))
      · repeat' (first | (with_reducible exact H0.out) | (with_reducible refine Below.setCell ?_ ?_ _) | (show _ ≤ _; dsimp only; omega))
end Go.Proofs.YthpioplpfmlgcaaGreatDoor.Ch
namespace Go.Proofs.YthpioplpfmlgcaaGreatDoor.Ch
def up (k n : Nat) : Nat := if k ≤ n then n + 1 else n
theorem all_rule {rs : List Rul} {ts : List ByteArray} {i j : Nat} {x : Rd} (h : x ∈ allR rs ts i j) : -1 ≤ x.rule ∧ x.rule < (rs.length : Int) := by
  rcases (mem_all (mem_lt h)).1 h with ⟨_, _, rfl⟩ | ⟨n, u, hu, h⟩
  · show (-1 : Int) ≤ -1 ∧ (-1 : Int) < _
    omega
  · rw [(rule_at h).2]
    have := (List.getElem?_eq_some_iff.1 hu).1
    omega
/-- bounds -/
theorem flat_le {α β : Type} {f : α → List β} {b : Nat} : ∀ {l : List α}, (∀ x ∈ l, (f x).length ≤ b) → (l.flatMap f).length ≤ l.length * b
  | [], _ => by simp
  | a :: l, h => by
    rw [List.flatMap_cons, List.length_append, List.length_cons, Nat.add_mul, Nat.one_mul]
    have := h a List.mem_cons_self
    have := flat_le (l := l) fun x hx => h x (List.mem_cons_of_mem _ hx)
    omega
end Go.Proofs.YthpioplpfmlgcaaGreatDoor.Ch
