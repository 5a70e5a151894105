/- Alpha-equivalence by the reference: terms whose names are tied are alike. -/
import Derived.Test.YtpokelkneblafaaGreatDoorFR
import Derived.Test.YtpokelkneblafaaGreatDoorMT
import Derived.Test.YtpokelkneblafaaGreatDoorAP
import Derived.Deep.DeepCutAuto
namespace Go.Proofs.YtpokelkneblafaaGreatDoor
open Go.RowKit
theorem reads_nms {w : World} {A : Option Addr} {ts : List Nm} {n : Nat} (h : NmsAt w A ts) (hn : n = ts.length) : Reads w w.heap.size 1 A n (ts.map strV) := by
  subst hn
  refine ⟨by simp, fun h0 => ?_⟩
  cases ts with
  | nil => exact absurd h0 (by simp)
  | cons p r =>
    obtain ⟨ad, h1, h2, _⟩ := h 0 p rfl
    refine ⟨ad, h1, h2, fun j v hj => ?_⟩
    rw [List.getElem?_map] at hj
    cases hq : (p :: r)[j]? with
    | none => rw [hq] at hj; cases hj
    | some q =>
      rw [hq] at hj
      obtain rfl : strV q = v := by simpa using hj
      obtain ⟨ad2, h3, _, h4⟩ := h j q hq
      obtain rfl : ad = ad2 := Option.some.inj (h1.symm.trans h3)
      exact h4
theorem alkL_at : ∀ {R : Nm → Nm → Prop} {bnd : Bool} {v u : Nm} {ts ts' : List Trm} {i : Nat} {t t' : Trm}, AlkL R bnd v u ts ts' → ts[i]? = some t → ts'[i]? = some t' → Alk (scpR (bnd && decide (i + 1 = ts.length)) R v u) t t'
  | R, bnd, v, u, [], _, i, t, t', _, h, _ => by simp at h
  | R, bnd, v, u, _ :: _, [], i, t, t', _, _, h => by simp at h
  | R, bnd, v, u, x :: ts, x' :: ts', 0, t, t', hA, h, h' => by
    rw [AlkL] at hA
    obtain rfl : x = t := by simpa using h
    obtain rfl : x' = t' := by simpa using h'
    rw [show decide (0 + 1 = (x :: ts).length) = ts.isEmpty by cases ts <;> simp]
    exact hA.1
  | R, bnd, v, u, x :: ts, x' :: ts', i + 1, t, t', hA, h, h' => by
    rw [AlkL] at hA
    rw [show decide (i + 1 + 1 = (x :: ts).length) = decide (i + 1 = ts.length) by simp]
    exact alkL_at hA.2 (by simpa using h) (by simpa using h')
/-- the boxes of the call -/
structure AkS (w : World) (c c' : Array Value) (A A' : Option Addr) (ts ts' : List Trm) (A1 A2 : Option Addr) (xs ys : List Nm) (x : World) : Prop where
  bel : Below w.heap.size w x
  k0 : Blk x w.heap.size 25 c
  k1 : Blk x (w.heap.size + 1) 25 c'
  a0 : ArgsAt x A ts
  a1 : ArgsAt x A' ts'
  n1 : NmsAt x A1 xs
  n2 : NmsAt x A2 ys
theorem AkS.keep {w : World} {c c' : Array Value} {A A' : Option Addr} {ts ts' : List Trm} {A1 A2 : Option Addr} {xs ys : List Nm} {x x' : World} (h : AkS w c c' A A' ts ts' A1 A2 xs ys x) (hb : Below x.heap.size x x') : AkS w c c' A A' ts ts' A1 A2 xs ys x' :=
  ⟨h.bel.trans (hb.mono h.bel.size), _root_.Go.Proofs.YtpokelkneblafaaGreatDoor.keep hb h.k0, _root_.Go.Proofs.YtpokelkneblafaaGreatDoor.keep hb h.k1, h.a0.keep hb, h.a1.keep hb, h.n1.keep hb, h.n2.keep hb⟩
theorem AkS.start {w : World} {c c' : Array Value} {A A' : Option Addr} {ts ts' : List Trm} {A1 A2 : Option Addr} {xs ys : List Nm} (h0 : ArgsAt w A ts) (h1 : ArgsAt w A' ts') (n1 : NmsAt w A1 xs) (n2 : NmsAt w A2 ys) : AkS w c c' A A' ts ts' A1 A2 xs ys ((w.alloc (.cells c 25)).alloc (.cells c' 25)) := by
  have B1 := bel_alloc w (.cells c 25)
  have B2 := bel_alloc (w.alloc (.cells c 25)) (.cells c' 25)
  have s1 : (w.alloc (.cells c 25)).heap.size = w.heap.size + 1 := by simp
  have hb := B1.trans (B2.mono B1.size)
  refine ⟨hb, _root_.Go.Proofs.YtpokelkneblafaaGreatDoor.keep B2 (Blk.new w _ c), ?_, h0.keep hb, h1.keep hb, n1.keep hb, n2.keep hb⟩
  rw [← s1]
  exact Blk.new _ _ _
/-- a list that is made in one region together with another one; col: which block belongs to which group -/
def GrpR (c B : Nat) (xs : List Nm) (s : Nm) (b1 b2 b4 : Bool) (col : Nat → Nat) (g1 : Nat) (u2 u4 : Value) (wq : World) : Prop :=
  (b1 = true → b2 = false → OwnS wq B (.slice (some ⟨g1, 0, none⟩) 0 0) [] ∧ col g1 = c) ∧ (b2 = true → b4 = false → OwnS wq B u2 xs ∧ ∀ b, u2.ownBlock = some b → col b = c) ∧ (b4 = true → OwnS wq B u4 (xs ++ [s]) ∧ ∀ b, u4.ownBlock = some b → col b = c)
def GrpE (c : Nat) (s : Nm) (b3 b4 : Bool) (col : Nat → Nat) (g3 : Nat) (wq : World) : Prop := b3 = true → b4 = false → Blk wq g3 9 #[.string (bys s)] ∧ col g3 = c
/-- a colour for a new block -/
def colN (col : Nat → Nat) (n c : Nat) : Nat → Nat := fun b => if b = n then c else col b
theorem colN_old {col : Nat → Nat} {n c b : Nat} (h : b < n) : colN col n c b = col b := if_neg (by omega)
theorem colN_new {col : Nat → Nat} {n c : Nat} : colN col n c n = c := if_pos rfl
theorem grown_new (w : World) (o : Obj) : w.grownBy (w.alloc o) none := by
  have hb := bel_alloc w o
  exact ⟨hb.os, hb.tape, hb.output, hb.size, fun i hi _ => hb.block i hi⟩
section
variable {c B : Nat} {xs : List Nm} {s : Nm} {b1 b2 b3 b4 : Bool} {col col' : Nat → Nat} {g1 g3 : Nat} {u2 u4 : Value} {wq w' : World} {row : Option Nat}
theorem own_col {ts : List Nm} {v : Value} (ho : OwnS wq B v ts) (hv : ∀ b, v.ownBlock = some b → col b = c) (hg : wq.grownBy w' row) (hr : ∀ r, row = some r → col r ≠ c) (hc : ∀ b, b < wq.heap.size → col' b = col b) : OwnS w' B v ts ∧ ∀ b, v.ownBlock = some b → col' b = c :=
  ⟨ho.grown hg fun b hb e => hr b e (hv b hb), fun b hb => by rw [hc b (ho.lt b hb).2]; exact hv b hb⟩
theorem GrpR.grown (h : GrpR c B xs s b1 b2 b4 col g1 u2 u4 wq) (hg : wq.grownBy w' row) (hr : ∀ r, row = some r → col r ≠ c) (hc : ∀ b, b < wq.heap.size → col' b = col b) : GrpR c B xs s b1 b2 b4 col' g1 u2 u4 w' := by
  obtain ⟨h1, h2, h4⟩ := h
  refine ⟨fun e e' => ?_, fun e e' => own_col (h2 e e').1 (h2 e e').2 hg hr hc, fun e => own_col (h4 e).1 (h4 e).2 hg hr hc⟩
  obtain ⟨p, q⟩ := own_col (h1 e e').1 (fun b hb => by
    obtain rfl : g1 = b := by simpa [Value.ownBlock] using hb
    exact (h1 e e').2) hg hr hc
  exact ⟨p, q g1 rfl⟩
theorem GrpE.grown (h : GrpE c s b3 b4 col g3 wq) (hg : wq.grownBy w' row) (hr : ∀ r, row = some r → col r ≠ c) (hc : ∀ b, b < wq.heap.size → col' b = col b) : GrpE c s b3 b4 col' g3 w' := fun e e' => by
  obtain ⟨p, q⟩ := h e e'
  exact ⟨p.grown hg fun e2 => hr g3 e2.symm q, by rw [hc g3 p.lt]; exact q⟩
theorem GrpR.new (hB : B ≤ wq.heap.size) : GrpR c B xs s true false false (colN col wq.heap.size c) wq.heap.size u2 u4 (wq.alloc (.cells #[] 9)) :=
  ⟨fun _ _ => ⟨OwnS.new wq B hB [] 0 rfl (by omega) #[] rfl, colN_new⟩, (fun h => by cases h), fun h => by cases h⟩
theorem GrpE.new (s : Nm) : GrpE c s true false (colN col wq.heap.size c) wq.heap.size (wq.alloc (.cells #[.string (bys s)] 9)) := fun _ _ => ⟨Blk.new _ _ _, colN_new⟩
theorem GrpR.app1 {u v : Value} (hv : ∀ b, v.ownBlock = some b → col b = c) (hlt : ∀ b, v.ownBlock = some b → b < wq.heap.size) (ho : OwnS w' B u xs) (hl : u.ownBlock = v.ownBlock ∨ u.ownBlock = some wq.heap.size) : GrpR c B xs s true true false (colN col wq.heap.size c) g1 u u4 w' :=
  ⟨(fun _ h => by cases h), (fun _ _ => ⟨ho, fun b hb => by
    rcases hl with hl | hl
    · rw [hl] at hb
      rw [colN_old (hlt b hb)]; exact hv b hb
    · rw [hl] at hb
      obtain rfl := Option.some.inj hb
      exact colN_new⟩), fun h => by cases h⟩
theorem GrpR.app2 {u v : Value} (hv : ∀ b, v.ownBlock = some b → col b = c) (hlt : ∀ b, v.ownBlock = some b → b < wq.heap.size) (ho : OwnS w' B u (xs ++ [s])) (hl : u.ownBlock = v.ownBlock ∨ u.ownBlock = some wq.heap.size) : GrpR c B xs s true true true (colN col wq.heap.size c) g1 u2 u w' :=
  ⟨(fun _ h => by cases h), (fun _ h => by cases h), fun _ => ⟨ho, fun b hb => by
    rcases hl with hl | hl
    · rw [hl] at hb
      rw [colN_old (hlt b hb)]; exact hv b hb
    · rw [hl] at hb
      obtain rfl := Option.some.inj hb
      exact colN_new⟩⟩
end
abbrev GX := (Nat → Nat) × (Nat × Value × Nat × Value) × (Nat × Value × Nat × Value)
def InvK (w5 : World) (xs : List Nm) (s : Nm) (ys : List Nm) (s' : Nm) : List Bool → GX → World → Prop
  | [a1, a2, a3, a4, c1, c2, c3, c4], gx, wq => Below w5.heap.size w5 wq ∧ GrpR 0 w5.heap.size xs s a1 a2 a4 gx.1 gx.2.1.1 gx.2.1.2.1 gx.2.1.2.2.2 wq ∧ GrpE 1 s a3 a4 gx.1 gx.2.1.2.2.1 wq ∧ GrpR 2 w5.heap.size ys s' c1 c2 c4 gx.1 gx.2.2.1 gx.2.2.2.1 gx.2.2.2.2.2 wq ∧ GrpE 3 s' c3 c4 gx.1 gx.2.2.2.2.1 wq
  | _, _, _ => False
set_option maxRecDepth 100000 in
set_option maxHeartbeats 16000000 in
theorem alike_any : ∀ (z : Nat) (t t' : Trm) (c c' : Array Value) (A1 A2 : Option Addr) (c1 c2 : Nat) (xs ys : List Nm) (w : World), cntM t ≤ z → Alk (stkR xs.reverse ys.reverse) t t' → xs.length + z ≤ 1000000 → ys.length + z ≤ 1000000 → MAt w t c → MAt w t' c' → NmsAt w A1 xs → NmsAt w A2 ys →
    Calls Tryz.prog 31 #[.agg c, .agg c', .slice A1 xs.length c1, .slice A2 ys.length c2] w fun e w' => e = .returned (.bool true) ∧ Below w.heap.size w w' := by
  intro z
  induction z with
  | zero => intro t t' c c' A1 A2 c1 c2 xs ys w h; have := cnt_pos t; omega
  | succ z ih =>
    intro t t' c c' A1 A2 c1 c2 xs ys w hz hA hx hy hM hM' hN1 hN2
    obtain ⟨s0, hs, hy0, hy1, hy2⟩ := info_parts info_str
    have IH := Lib.hid ih
    clear ih
    obtain ⟨A, cap, rfl, _, _, _, _, _, hk⟩ := hM.form
    obtain ⟨A', cap', rfl, _, _, _, _, _, hk'⟩ := hM'.form
    obtain ⟨k, a, vr, f, ts⟩ := t
    obtain ⟨k', a', vr', f', ts'⟩ := t'
    dsimp only [Trm.kind, Trm.nam, Trm.vr, Trm.form, Trm.args] at hk hk' ⊢
    rw [Alk] at hA
    obtain ⟨rfl, hf, hl, hA⟩ := hA
    obtain rfl : f = f' := ByteArray.ext (Array.toList_inj.1 hf)
    rw [← hl]
    have HLL := Lib.hid hl
    have HA := Lib.hid hA
    have HLN := Lib.hid (show xs.length + z + 1 ≤ 1000000 ∧ ys.length + z + 1 ≤ 1000000 by omega)
    have HZ0 := Lib.hid (show cntL ts ≤ z by rw [cntM] at hz; omega)
    have HL : ts.length ≤ 1000000 := by have := len_cntL ts; have := HZ0.out; omega
    have S1 := Lib.hid (AkS.start (c := trmC k a vr A ts.length cap f) (c' := trmC k a' vr' A' ts.length cap' f) hk hk' hN1 hN2)
    clear hz hA hx hy hM hM' hN1 hN2 hk hk' hf hl
    go_enter Tryz.func31, Tryz.ntmps31
    go_upto_region 1 with (fail)
    generalize (w.alloc (.cells (trmC k a vr A ts.length cap f) 25)).alloc (.cells (trmC k a' vr' A' ts.length cap' f) 25) = w1 at *
    have x0 := S1.out.k0.cell 0
    have x3 := S1.out.k0.cell 3
    have x4 := S1.out.k0.cell 4
    have y0 := S1.out.k1.cell 0
    have y3 := S1.out.k1.cell 3
    have y4 := S1.out.k1.cell 4
    by_cases h2 : k = 2
    · subst h2
      have hR := HA.out
      rw [if_pos rfl] at hR
      have HNN := Lib.hid (show lastI xs a.data.toList = lastI ys a'.data.toList ∧ (0 ≤ lastI ys a'.data.toList ∨ a = a') by
        obtain ⟨r1, r2⟩ := hR
        unfold lastI
        rw [r1]
        refine ⟨rfl, ?_⟩
        cases hq : lkS ys.reverse a'.data.toList with
        | none => exact .inr (ByteArray.ext (Array.toList_inj.1 (r2 (r1.trans hq))))
        | some n => exact .inl (by show (0 : Int) ≤ (n : Int); omega))
      clear hR
      go_upto_region 4 with (fail)
      clear x0 x3 x4 y0 y3 y4
      refine region_list (by kernel_rfl) _ [.slice A1 xs.length c1, .pointer (some ⟨w.heap.size, 1, none⟩), .string a, .int .i64 (lastI xs a.data.toList), .slice A2 ys.length c2, .pointer (some ⟨w.heap.size + 1, 1, none⟩), .string a', .int .i64 (lastI ys a'.data.toList), .int .i64 (lastI xs a.data.toList), .int .i64 (lastI ys a'.data.toList)] [true, true, true, true, true, true, true, true, true, true] (fun wq => AkS w (trmC 2 a vr A ts.length cap f) (trmC 2 a' vr' A' ts.length cap' f) A A' ts ts' A1 A2 xs ys wq) (by kernel_rfl) (by simp [fin, finOn, dstAt, List.range, List.range.loop, Act.put]; rfl) (by kernel_rfl) (S1.out.keep (below_drew (Below.refl _ _))) ?_ ?_
      · refine ⟨fun wq hI => ?_, fun wq hI => ?_, fun wq hI => ?_, fun wq hI => ?_, fun wq hI => ?_, fun wq hI => ?_, fun wq hI => ?_, fun wq hI => ?_, fun wq hI => ?_, fun wq hI => ?_, trivial⟩
        · exact Gives.value (v := .slice A1 xs.length c1) (w' := wq) (by kernel_rfl) ⟨rfl, hI⟩
        · exact Gives.value (v := .pointer (some ⟨w.heap.size, 1, none⟩)) (w' := wq) (by simp [go_sem]) ⟨rfl, hI⟩
        · have cJ := hI.k0.cell 1
          exact Gives.value (v := .string a) (w' := wq) (by simp [go_sem, cJ]) ⟨rfl, hI⟩
        · refine Gives.call (f := 54) (args := #[.slice A1 xs.length c1, .string a]) (w' := wq) (by kernel_rfl) ((last_any A1 c1 xs a wq hI.n1 (by have := HLN.out; omega)).mono ?_)
          rintro e wz ⟨rfl, hbz⟩
          exact ⟨_, rfl, rfl, hI.keep hbz⟩
        · exact Gives.value (v := .slice A2 ys.length c2) (w' := wq) (by kernel_rfl) ⟨rfl, hI⟩
        · exact Gives.value (v := .pointer (some ⟨w.heap.size + 1, 1, none⟩)) (w' := wq) (by simp [go_sem]) ⟨rfl, hI⟩
        · have cJ := hI.k1.cell 1
          exact Gives.value (v := .string a') (w' := wq) (by simp [go_sem, cJ]) ⟨rfl, hI⟩
        · refine Gives.call (f := 54) (args := #[.slice A2 ys.length c2, .string a']) (w' := wq) (by kernel_rfl) ((last_any A2 c2 ys a' wq hI.n2 (by have := HLN.out; omega)).mono ?_)
          rintro e wz ⟨rfl, hbz⟩
          exact ⟨_, rfl, rfl, hI.keep hbz⟩
        · exact Gives.value (v := .int .i64 (lastI xs a.data.toList)) (w' := wq) (by kernel_rfl) ⟨rfl, hI⟩
        · exact Gives.value (v := .int .i64 (lastI ys a'.data.toList)) (w' := wq) (by kernel_rfl) ⟨rfl, hI⟩
      · intro wq hI
        have HS := Lib.hid hI
        clear hI S1
        generalize wq = w2 at *
        have x1 := HS.out.k0.cell 1
        have y1 := HS.out.k1.cell 1
        obtain ⟨e1, e2⟩ := HNN.out
        rw [e1]
        clear e1 HNN
        generalize lastI ys a'.data.toList = n at *
        by_cases hn : 0 ≤ n
        · go_wp2_with fail
          go_ret
          exact ⟨rfl, HS.out.bel⟩
        · obtain rfl : a = a' := e2.resolve_left hn
          go_wp2_with fail
          go_ret
          exact ⟨rfl, HS.out.bel⟩
    · have q2 : (k == 2) = false := beq_eq_false_iff_ne.2 h2
      have hR := HA.out
      rw [if_neg h2] at hR
      obtain ⟨ha, hAL⟩ := hR
      obtain rfl : a = a' := ByteArray.ext (Array.toList_inj.1 ha)
      have HAL := Lib.hid hAL
      clear h2 ha hAL HA
      have x1 := S1.out.k0.cell 1
      have y1 := S1.out.k1.cell 1
      go_wp2_with fail
      clear x0 x1 x3 x4 y0 y1 y3 y4
      go_loopw [11] (fun i wr => ∃ (j : Nat), j ≤ ts.length ∧ i = .int .i64 j ∧ Hid (AkS w (trmC k a vr A ts.length cap f) (trmC k a vr' A' ts.length cap' f) A A' ts ts' A1 A2 xs ys wr)) (fun i _ => ts.length - (intOf i).toNat)
      case atStart => exact ⟨0, by omega, rfl, S1⟩
      case round =>
        clear S1
        obtain ⟨j, hj, rfl, HS⟩ := hrel
        have x0 := HS.out.k0.cell 0
        have x3 := HS.out.k0.cell 3
        by_cases hlt : j < ts.length
        · obtain ⟨y, hy⟩ : ∃ y, ts[j]? = some y := ⟨_, List.getElem?_eq_getElem hlt⟩
          obtain ⟨y', hy'⟩ : ∃ y', ts'[j]? = some y' := ⟨_, List.getElem?_eq_getElem (by have := HLL.out; omega)⟩
          obtain ⟨ad, Ay, cy, rfl, _, hp⟩ := HS.out.a0.at_ hy
          obtain ⟨ad', Ay', cy', rfl, _, hp'⟩ := HS.out.a1.at_ hy'
          have HP := Lib.hid hp
          have HP2 := Lib.hid hp'
          have HCN := Lib.hid (show cntM y ≤ z by have := cnt_arg hy; have := HZ0.out; omega)
          have HYY := Lib.hid (alkL_at HAL.out hy hy')
          have w1x : IntKind.i64.wrap ((ts.length : Int) - 1) = (ts.length : Int) - 1 := IntWalk.i64_in _ (by omega)
          clear hp hp' hy hy'
          by_cases hlast : k = 5 ∧ j + 1 = ts.length
          · obtain ⟨rfl, hjn⟩ := hlast
            have qj : ((j : Int) == (ts.length : Int) - 1) = true := by rw [beq_iff_eq]; omega
            have HRR := Lib.hid (show Alk (stkR (xs ++ [vr.data.toList]).reverse (ys ++ [vr'.data.toList]).reverse) y y' by
              have h := HYY.out
              rw [decide_eq_true hjn] at h
              rw [List.reverse_append, List.reverse_append]
              exact Alk.mono y y' (fun _ _ _ => stk_push) h)
            clear hjn
            go_upto_region 13 with (fail)
            clear x0 x3 w1x qj
            have HX1 := Lib.hid HS.out.n1
            have HX2 := Lib.hid HS.out.n2
            refine region_ghost (X := GX) (by kernel_rfl) _ (fun gx => [.slice (some ⟨gx.2.1.1, 0, none⟩) 0 0, .slice A1 xs.length c1, gx.2.1.2.1, .pointer (some ⟨w.heap.size, 2, none⟩), .string vr, .slice (some ⟨gx.2.1.2.2.1, 0, none⟩) 1 1, gx.2.1.2.2.2, .slice (some ⟨gx.2.2.1, 0, none⟩) 0 0, .slice A2 ys.length c2, gx.2.2.2.1, .pointer (some ⟨w.heap.size + 1, 2, none⟩), .string vr', .slice (some ⟨gx.2.2.2.2.1, 0, none⟩) 1 1, gx.2.2.2.2.2, gx.2.1.2.2.2, gx.2.2.2.2.2]) [true, true, true, true, true, true, true, true, true, true, true, true, true, true, true, true] [0, 2, 5, 6, 7, 9, 12, 13] (InvK wr xs vr.data.toList ys vr'.data.toList) ((fun _ => 0), (0, .nilFunc, 0, .nilFunc), (0, .nilFunc, 0, .nilFunc)) (by kernel_rfl) (fun gx => by simp [fin, finOn, dstAt, List.range, List.range.loop, Act.put]; rfl) (fun _ => by kernel_rfl) (by kernel_rfl) ⟨below_drew (Below.refl _ _), ⟨(fun h => by cases h), (fun h => by cases h), fun h => by cases h⟩, (fun h => by cases h), ⟨(fun h => by cases h), (fun h => by cases h), fun h => by cases h⟩, fun h => by cases h⟩ ?_ ?_
            · refine ⟨fun L gx wq hL hb ha hI => ?_, fun L gx wq hL hb ha hI => ?_, fun L gx wq hL hb ha hI => ?_, fun L gx wq hL hb ha hI => ?_, fun L gx wq hL hb ha hI => ?_, fun L gx wq hL hb ha hI => ?_, fun L gx wq hL hb ha hI => ?_, fun L gx wq hL hb ha hI => ?_, fun L gx wq hL hb ha hI => ?_, fun L gx wq hL hb ha hI => ?_, fun L gx wq hL hb ha hI => ?_, fun L gx wq hL hb ha hI => ?_, fun L gx wq hL hb ha hI => ?_, fun L gx wq hL hb ha hI => ?_, fun L gx wq hL hb ha hI => ?_, fun L gx wq hL hb ha hI => ?_, trivial⟩
              · have e1 : L 0 = false := hL
                have e2 : L 2 = false := ha 2 (by kernel_rfl)
                have e4 : L 6 = false := ha 6 (by kernel_rfl)
                simp only [List.map, e1, e2, e4, Nat.reduceBEq, Bool.or_false, Bool.false_or] at hI ⊢
                obtain ⟨h1, h2, h3, h4, h5⟩ := hI
                exact Gives.value (v := .slice (some ⟨wq.heap.size, 0, none⟩) 0 0) (w' := wq.alloc (.cells #[] 9)) (by simp [go_sem]) ⟨(colN gx.1 wq.heap.size 0, (wq.heap.size, gx.2.1.2.1, gx.2.1.2.2.1, gx.2.1.2.2.2), gx.2.2), rfl, (KeepsV.of_same ⟨.inl rfl, .inr (.inr rfl), (by first | exact .inr (.inr rfl) | exact .inr (.inl (by kernel_rfl))), .inr (.inr rfl), .inr (.inr rfl), (by first | exact .inr (.inr rfl) | exact .inr (.inl (by kernel_rfl))), (by first | exact .inr (.inr rfl) | exact .inr (.inl (by kernel_rfl))), (by first | exact .inr (.inr rfl) | exact .inr (.inl (by kernel_rfl))), .inr (.inr rfl), (by first | exact .inr (.inr rfl) | exact .inr (.inl (by kernel_rfl))), .inr (.inr rfl), .inr (.inr rfl), (by first | exact .inr (.inr rfl) | exact .inr (.inl (by kernel_rfl))), (by first | exact .inr (.inr rfl) | exact .inr (.inl (by kernel_rfl))), (by first | exact .inr (.inr rfl) | exact .inr (.inl (by kernel_rfl))), (by first | exact .inr (.inr rfl) | exact .inr (.inl (by kernel_rfl))), trivial⟩), h1.alloc h1.size _, GrpR.new h1.size, h3.grown (grown_new wq _) (fun r e => by cases e) (fun b hb => colN_old hb), h4.grown (grown_new wq _) (fun r e => by cases e) (fun b hb => colN_old hb), h5.grown (grown_new wq _) (fun r e => by cases e) (fun b hb => colN_old hb)⟩
              · exact Gives.plain (v := .slice A1 xs.length c1) (w' := wq) (by kernel_rfl) rfl hI
              · have e1 : L 0 = true := hb 0 (by kernel_rfl)
                have e2 : L 2 = false := hL
                have e4 : L 6 = false := ha 6 (by kernel_rfl)
                simp only [List.map, e1, e2, e4, Bool.or_false, Bool.or_true] at hI ⊢
                obtain ⟨h1, h2, h3, h4, h5⟩ := hI
                obtain ⟨ho, hk⟩ := h2.1 rfl rfl
                have hcol : ∀ b, (Value.slice (some ⟨gx.2.1.1, 0, none⟩) 0 0).ownBlock = some b → gx.1 b = 0 := fun b hb => by
                  obtain rfl : gx.2.1.1 = b := by simpa [Value.ownBlock] using hb
                  exact hk
                have hlt : ∀ b, (Value.slice (some ⟨gx.2.1.1, 0, none⟩) 0 0).ownBlock = some b → b < wq.heap.size := fun b hb => (ho.lt b hb).2
                have hlo : ∀ b, (Value.slice (some ⟨gx.2.1.1, 0, none⟩) 0 0).ownBlock = some b → wr.heap.size ≤ b := fun b hb => (ho.lt b hb).1
                have hsz := h1.size
                have hln := HLN.out
                exact gives_append (.tmp 85) (.tmp 86) 61 rfl wr.heap.size 9 s0 (.string ⟨#[]⟩) 1 16 Tryz.underlying61 hs hy0 hy1 hy2 rfl (by decide) (.slice (some ⟨gx.2.1.1, 0, none⟩) 0 0) 0 [] rfl ho wq.heap.size A1 xs.length c1 (xs.map strV) rfl (reads_nms (HX1.out.keep h1) rfl) strs_one (by unfold maxLen; omega) (by omega) h1.size (fun v' w' q2 q3 q4 => ⟨(colN gx.1 wq.heap.size 0, (gx.2.1.1, v', gx.2.1.2.2.1, gx.2.1.2.2.2), gx.2.2), rfl, (KeepsV.of_same ⟨(by first | exact .inr (.inr rfl) | exact .inr (.inl (by kernel_rfl))), .inr (.inr rfl), .inl rfl, .inr (.inr rfl), .inr (.inr rfl), (by first | exact .inr (.inr rfl) | exact .inr (.inl (by kernel_rfl))), (by first | exact .inr (.inr rfl) | exact .inr (.inl (by kernel_rfl))), (by first | exact .inr (.inr rfl) | exact .inr (.inl (by kernel_rfl))), .inr (.inr rfl), (by first | exact .inr (.inr rfl) | exact .inr (.inl (by kernel_rfl))), .inr (.inr rfl), .inr (.inr rfl), (by first | exact .inr (.inr rfl) | exact .inr (.inl (by kernel_rfl))), (by first | exact .inr (.inr rfl) | exact .inr (.inl (by kernel_rfl))), (by first | exact .inr (.inr rfl) | exact .inr (.inl (by kernel_rfl))), (by first | exact .inr (.inr rfl) | exact .inr (.inl (by kernel_rfl))), trivial⟩), h1.grown q3 h1.size hlo, GrpR.app1 (v := .slice (some ⟨gx.2.1.1, 0, none⟩) 0 0) hcol hlt (OwnS.snoc (ts := []) (us := xs) rfl rfl q2) q4, h3.grown q3 (fun r e => by have := hcol r e; omega) (fun b hb => colN_old hb), h4.grown q3 (fun r e => by have := hcol r e; omega) (fun b hb => colN_old hb), h5.grown q3 (fun r e => by have := hcol r e; omega) (fun b hb => colN_old hb)⟩)
              · exact Gives.plain (v := .pointer (some ⟨w.heap.size, 2, none⟩)) (w' := wq) (by simp [go_sem]) rfl hI
              · have cJ := (keep hI.1 HS.out.k0).cell 2
                exact Gives.plain (v := .string vr) (w' := wq) (by simp [go_sem, cJ]) rfl hI
              · have e3 : L 5 = false := hL
                have e4 : L 6 = false := ha 6 (by kernel_rfl)
                simp only [List.map, e3, e4, Bool.or_false] at hI ⊢
                obtain ⟨h1, h2, h3, h4, h5⟩ := hI
                exact Gives.value (v := .slice (some ⟨wq.heap.size, 0, none⟩) 1 1) (w' := wq.alloc (.cells #[.string (bys vr.data.toList)] 9)) (by simp [go_sem, bys_of]) ⟨(colN gx.1 wq.heap.size 1, (gx.2.1.1, gx.2.1.2.1, wq.heap.size, gx.2.1.2.2.2), gx.2.2), rfl, (KeepsV.of_same ⟨(by first | exact .inr (.inr rfl) | exact .inr (.inl (by kernel_rfl))), .inr (.inr rfl), (by first | exact .inr (.inr rfl) | exact .inr (.inl (by kernel_rfl))), .inr (.inr rfl), .inr (.inr rfl), .inl rfl, (by first | exact .inr (.inr rfl) | exact .inr (.inl (by kernel_rfl))), (by first | exact .inr (.inr rfl) | exact .inr (.inl (by kernel_rfl))), .inr (.inr rfl), (by first | exact .inr (.inr rfl) | exact .inr (.inl (by kernel_rfl))), .inr (.inr rfl), .inr (.inr rfl), (by first | exact .inr (.inr rfl) | exact .inr (.inl (by kernel_rfl))), (by first | exact .inr (.inr rfl) | exact .inr (.inl (by kernel_rfl))), (by first | exact .inr (.inr rfl) | exact .inr (.inl (by kernel_rfl))), (by first | exact .inr (.inr rfl) | exact .inr (.inl (by kernel_rfl))), trivial⟩), h1.alloc h1.size _, h2.grown (grown_new wq _) (fun r e => by cases e) (fun b hb => colN_old hb), GrpE.new _, h4.grown (grown_new wq _) (fun r e => by cases e) (fun b hb => colN_old hb), h5.grown (grown_new wq _) (fun r e => by cases e) (fun b hb => colN_old hb)⟩
              · have e1 : L 0 = true := hb 0 (by kernel_rfl)
                have e2 : L 2 = true := hb 2 (by kernel_rfl)
                have e3 : L 5 = true := hb 5 (by kernel_rfl)
                have e4 : L 6 = false := hL
                simp only [List.map, e1, e2, e3, e4, Bool.or_false, Bool.or_true] at hI ⊢
                obtain ⟨h1, h2, h3, h4, h5⟩ := hI
                obtain ⟨ho, hk⟩ := h2.2.1 rfl rfl
                obtain ⟨hE, _⟩ := h3 rfl rfl
                have hcol : ∀ b, (gx.2.1.2.1).ownBlock = some b → gx.1 b = 0 := hk
                have hlt : ∀ b, (gx.2.1.2.1).ownBlock = some b → b < wq.heap.size := fun b hb => (ho.lt b hb).2
                have hlo : ∀ b, (gx.2.1.2.1).ownBlock = some b → wr.heap.size ≤ b := fun b hb => (ho.lt b hb).1
                have hsz := h1.size
                have hln := HLN.out
                exact gives_append (.tmp 87) (.tmp 90) 61 rfl wr.heap.size 9 s0 (.string ⟨#[]⟩) 1 16 Tryz.underlying61 hs hy0 hy1 hy2 rfl (by decide) (gx.2.1.2.1) xs.length (xs.map strV) rfl ho wq.heap.size (some ⟨gx.2.1.2.2.1, 0, none⟩) 1 1 [.string (bys vr.data.toList)] rfl (reads_cell hE) (by intro u hu; obtain rfl := List.mem_singleton.1 hu; rfl) (by unfold maxLen; omega) (by omega) h1.size (fun v' w' q2 q3 q4 => ⟨(colN gx.1 wq.heap.size 0, (gx.2.1.1, gx.2.1.2.1, gx.2.1.2.2.1, v'), gx.2.2), rfl, (KeepsV.of_same ⟨(by first | exact .inr (.inr rfl) | exact .inr (.inl (by kernel_rfl))), .inr (.inr rfl), (by first | exact .inr (.inr rfl) | exact .inr (.inl (by kernel_rfl))), .inr (.inr rfl), .inr (.inr rfl), (by first | exact .inr (.inr rfl) | exact .inr (.inl (by kernel_rfl))), .inl rfl, (by first | exact .inr (.inr rfl) | exact .inr (.inl (by kernel_rfl))), .inr (.inr rfl), (by first | exact .inr (.inr rfl) | exact .inr (.inl (by kernel_rfl))), .inr (.inr rfl), .inr (.inr rfl), (by first | exact .inr (.inr rfl) | exact .inr (.inl (by kernel_rfl))), (by first | exact .inr (.inr rfl) | exact .inr (.inl (by kernel_rfl))), (by first | exact .inr (.inr rfl) | exact .inr (.inl (by kernel_rfl))), (by first | exact .inr (.inr rfl) | exact .inr (.inl (by kernel_rfl))), trivial⟩), h1.grown q3 h1.size hlo, GrpR.app2 (v := gx.2.1.2.1) hk hlt (OwnS.snoc (us := [vr.data.toList]) rfl rfl q2) q4, (fun _ h => by cases h), h4.grown q3 (fun r e => by have := hcol r e; omega) (fun b hb => colN_old hb), h5.grown q3 (fun r e => by have := hcol r e; omega) (fun b hb => colN_old hb)⟩)
              · have e1 : L 7 = false := hL
                have e2 : L 9 = false := ha 9 (by kernel_rfl)
                have e4 : L 13 = false := ha 13 (by kernel_rfl)
                simp only [List.map, e1, e2, e4, Bool.or_false] at hI ⊢
                obtain ⟨h1, h2, h3, h4, h5⟩ := hI
                exact Gives.value (v := .slice (some ⟨wq.heap.size, 0, none⟩) 0 0) (w' := wq.alloc (.cells #[] 9)) (by simp [go_sem]) ⟨(colN gx.1 wq.heap.size 2, gx.2.1, (wq.heap.size, gx.2.2.2.1, gx.2.2.2.2.1, gx.2.2.2.2.2)), rfl, (KeepsV.of_same ⟨(by first | exact .inr (.inr rfl) | exact .inr (.inl (by kernel_rfl))), .inr (.inr rfl), (by first | exact .inr (.inr rfl) | exact .inr (.inl (by kernel_rfl))), .inr (.inr rfl), .inr (.inr rfl), (by first | exact .inr (.inr rfl) | exact .inr (.inl (by kernel_rfl))), (by first | exact .inr (.inr rfl) | exact .inr (.inl (by kernel_rfl))), .inl rfl, .inr (.inr rfl), (by first | exact .inr (.inr rfl) | exact .inr (.inl (by kernel_rfl))), .inr (.inr rfl), .inr (.inr rfl), (by first | exact .inr (.inr rfl) | exact .inr (.inl (by kernel_rfl))), (by first | exact .inr (.inr rfl) | exact .inr (.inl (by kernel_rfl))), (by first | exact .inr (.inr rfl) | exact .inr (.inl (by kernel_rfl))), (by first | exact .inr (.inr rfl) | exact .inr (.inl (by kernel_rfl))), trivial⟩), h1.alloc h1.size _, h2.grown (grown_new wq _) (fun r e => by cases e) (fun b hb => colN_old hb), h3.grown (grown_new wq _) (fun r e => by cases e) (fun b hb => colN_old hb), GrpR.new h1.size, h5.grown (grown_new wq _) (fun r e => by cases e) (fun b hb => colN_old hb)⟩
              · exact Gives.plain (v := .slice A2 ys.length c2) (w' := wq) (by kernel_rfl) rfl hI
              · have e1 : L 7 = true := hb 7 (by kernel_rfl)
                have e2 : L 9 = false := hL
                have e4 : L 13 = false := ha 13 (by kernel_rfl)
                simp only [List.map, e1, e2, e4, Bool.or_false, Bool.or_true] at hI ⊢
                obtain ⟨h1, h2, h3, h4, h5⟩ := hI
                obtain ⟨ho, hk⟩ := h4.1 rfl rfl
                have hcol : ∀ b, (Value.slice (some ⟨gx.2.2.1, 0, none⟩) 0 0).ownBlock = some b → gx.1 b = 2 := fun b hb => by
                  obtain rfl : gx.2.2.1 = b := by simpa [Value.ownBlock] using hb
                  exact hk
                have hlt : ∀ b, (Value.slice (some ⟨gx.2.2.1, 0, none⟩) 0 0).ownBlock = some b → b < wq.heap.size := fun b hb => (ho.lt b hb).2
                have hlo : ∀ b, (Value.slice (some ⟨gx.2.2.1, 0, none⟩) 0 0).ownBlock = some b → wr.heap.size ≤ b := fun b hb => (ho.lt b hb).1
                have hsz := h1.size
                have hln := HLN.out
                exact gives_append (.tmp 92) (.tmp 93) 61 rfl wr.heap.size 9 s0 (.string ⟨#[]⟩) 1 16 Tryz.underlying61 hs hy0 hy1 hy2 rfl (by decide) (.slice (some ⟨gx.2.2.1, 0, none⟩) 0 0) 0 [] rfl ho wq.heap.size A2 ys.length c2 (ys.map strV) rfl (reads_nms (HX2.out.keep h1) rfl) strs_one (by unfold maxLen; omega) (by omega) h1.size (fun v' w' q2 q3 q4 => ⟨(colN gx.1 wq.heap.size 2, gx.2.1, (gx.2.2.1, v', gx.2.2.2.2.1, gx.2.2.2.2.2)), rfl, (KeepsV.of_same ⟨(by first | exact .inr (.inr rfl) | exact .inr (.inl (by kernel_rfl))), .inr (.inr rfl), (by first | exact .inr (.inr rfl) | exact .inr (.inl (by kernel_rfl))), .inr (.inr rfl), .inr (.inr rfl), (by first | exact .inr (.inr rfl) | exact .inr (.inl (by kernel_rfl))), (by first | exact .inr (.inr rfl) | exact .inr (.inl (by kernel_rfl))), (by first | exact .inr (.inr rfl) | exact .inr (.inl (by kernel_rfl))), .inr (.inr rfl), .inl rfl, .inr (.inr rfl), .inr (.inr rfl), (by first | exact .inr (.inr rfl) | exact .inr (.inl (by kernel_rfl))), (by first | exact .inr (.inr rfl) | exact .inr (.inl (by kernel_rfl))), (by first | exact .inr (.inr rfl) | exact .inr (.inl (by kernel_rfl))), (by first | exact .inr (.inr rfl) | exact .inr (.inl (by kernel_rfl))), trivial⟩), h1.grown q3 h1.size hlo, h2.grown q3 (fun r e => by have := hcol r e; omega) (fun b hb => colN_old hb), h3.grown q3 (fun r e => by have := hcol r e; omega) (fun b hb => colN_old hb), GrpR.app1 (v := .slice (some ⟨gx.2.2.1, 0, none⟩) 0 0) hcol hlt (OwnS.snoc (ts := []) (us := ys) rfl rfl q2) q4, h5.grown q3 (fun r e => by have := hcol r e; omega) (fun b hb => colN_old hb)⟩)
              · exact Gives.plain (v := .pointer (some ⟨w.heap.size + 1, 2, none⟩)) (w' := wq) (by simp [go_sem]) rfl hI
              · have cJ := (keep hI.1 HS.out.k1).cell 2
                exact Gives.plain (v := .string vr') (w' := wq) (by simp [go_sem, cJ]) rfl hI
              · have e3 : L 12 = false := hL
                have e4 : L 13 = false := ha 13 (by kernel_rfl)
                simp only [List.map, e3, e4, Bool.or_false] at hI ⊢
                obtain ⟨h1, h2, h3, h4, h5⟩ := hI
                exact Gives.value (v := .slice (some ⟨wq.heap.size, 0, none⟩) 1 1) (w' := wq.alloc (.cells #[.string (bys vr'.data.toList)] 9)) (by simp [go_sem, bys_of]) ⟨(colN gx.1 wq.heap.size 3, gx.2.1, (gx.2.2.1, gx.2.2.2.1, wq.heap.size, gx.2.2.2.2.2)), rfl, (KeepsV.of_same ⟨(by first | exact .inr (.inr rfl) | exact .inr (.inl (by kernel_rfl))), .inr (.inr rfl), (by first | exact .inr (.inr rfl) | exact .inr (.inl (by kernel_rfl))), .inr (.inr rfl), .inr (.inr rfl), (by first | exact .inr (.inr rfl) | exact .inr (.inl (by kernel_rfl))), (by first | exact .inr (.inr rfl) | exact .inr (.inl (by kernel_rfl))), (by first | exact .inr (.inr rfl) | exact .inr (.inl (by kernel_rfl))), .inr (.inr rfl), (by first | exact .inr (.inr rfl) | exact .inr (.inl (by kernel_rfl))), .inr (.inr rfl), .inr (.inr rfl), .inl rfl, (by first | exact .inr (.inr rfl) | exact .inr (.inl (by kernel_rfl))), (by first | exact .inr (.inr rfl) | exact .inr (.inl (by kernel_rfl))), (by first | exact .inr (.inr rfl) | exact .inr (.inl (by kernel_rfl))), trivial⟩), h1.alloc h1.size _, h2.grown (grown_new wq _) (fun r e => by cases e) (fun b hb => colN_old hb), h3.grown (grown_new wq _) (fun r e => by cases e) (fun b hb => colN_old hb), h4.grown (grown_new wq _) (fun r e => by cases e) (fun b hb => colN_old hb), GrpE.new _⟩
              · have e1 : L 7 = true := hb 7 (by kernel_rfl)
                have e2 : L 9 = true := hb 9 (by kernel_rfl)
                have e3 : L 12 = true := hb 12 (by kernel_rfl)
                have e4 : L 13 = false := hL
                simp only [List.map, e1, e2, e3, e4, Bool.or_false, Bool.or_true] at hI ⊢
                obtain ⟨h1, h2, h3, h4, h5⟩ := hI
                obtain ⟨ho, hk⟩ := h4.2.1 rfl rfl
                obtain ⟨hE, _⟩ := h5 rfl rfl
                have hcol : ∀ b, (gx.2.2.2.1).ownBlock = some b → gx.1 b = 2 := hk
                have hlt : ∀ b, (gx.2.2.2.1).ownBlock = some b → b < wq.heap.size := fun b hb => (ho.lt b hb).2
                have hlo : ∀ b, (gx.2.2.2.1).ownBlock = some b → wr.heap.size ≤ b := fun b hb => (ho.lt b hb).1
                have hsz := h1.size
                have hln := HLN.out
                exact gives_append (.tmp 94) (.tmp 97) 61 rfl wr.heap.size 9 s0 (.string ⟨#[]⟩) 1 16 Tryz.underlying61 hs hy0 hy1 hy2 rfl (by decide) (gx.2.2.2.1) ys.length (ys.map strV) rfl ho wq.heap.size (some ⟨gx.2.2.2.2.1, 0, none⟩) 1 1 [.string (bys vr'.data.toList)] rfl (reads_cell hE) (by intro u hu; obtain rfl := List.mem_singleton.1 hu; rfl) (by unfold maxLen; omega) (by omega) h1.size (fun v' w' q2 q3 q4 => ⟨(colN gx.1 wq.heap.size 2, gx.2.1, (gx.2.2.1, gx.2.2.2.1, gx.2.2.2.2.1, v')), rfl, (KeepsV.of_same ⟨(by first | exact .inr (.inr rfl) | exact .inr (.inl (by kernel_rfl))), .inr (.inr rfl), (by first | exact .inr (.inr rfl) | exact .inr (.inl (by kernel_rfl))), .inr (.inr rfl), .inr (.inr rfl), (by first | exact .inr (.inr rfl) | exact .inr (.inl (by kernel_rfl))), (by first | exact .inr (.inr rfl) | exact .inr (.inl (by kernel_rfl))), (by first | exact .inr (.inr rfl) | exact .inr (.inl (by kernel_rfl))), .inr (.inr rfl), (by first | exact .inr (.inr rfl) | exact .inr (.inl (by kernel_rfl))), .inr (.inr rfl), .inr (.inr rfl), (by first | exact .inr (.inr rfl) | exact .inr (.inl (by kernel_rfl))), .inl rfl, (by first | exact .inr (.inr rfl) | exact .inr (.inl (by kernel_rfl))), (by first | exact .inr (.inr rfl) | exact .inr (.inl (by kernel_rfl))), trivial⟩), h1.grown q3 h1.size hlo, h2.grown q3 (fun r e => by have := hcol r e; omega) (fun b hb => colN_old hb), h3.grown q3 (fun r e => by have := hcol r e; omega) (fun b hb => colN_old hb), GrpR.app2 (v := gx.2.2.2.1) hk hlt (OwnS.snoc (us := [vr'.data.toList]) rfl rfl q2) q4, (fun _ h => by cases h)⟩)
              · exact Gives.plain (v := gx.2.1.2.2.2) (w' := wq) (by kernel_rfl) rfl hI
              · exact Gives.plain (v := gx.2.2.2.2.2) (w' := wq) (by kernel_rfl) rfl hI
            · intro gx wq hI
              obtain ⟨h1, h2, _, h4, _⟩ := hI
              obtain ⟨hO1, _⟩ := h2.2.2 rfl
              obtain ⟨hO2, _⟩ := h4.2.2 rfl
              have HXL := Lib.hid (show (xs ++ [vr.data.toList]).length = xs.length + 1 ∧ (ys ++ [vr'.data.toList]).length = ys.length + 1 from ⟨by simp, by simp⟩)
              clear h2 h4
              generalize xs ++ [vr.data.toList] = X1 at *
              generalize ys ++ [vr'.data.toList] = Y1 at *
              obtain ⟨B1, d1, e1, hq1, hq2, hN1⟩ := hO1.nml
              obtain ⟨B2, d2, e2, hq3, hq4, hN2⟩ := hO2.nml
              replace HS := Lib.hid (HS.out.keep h1)
              replace HP := Lib.hid (HP.out.keep h1)
              replace HP2 := Lib.hid (HP2.out.keep h1)
              have HN1 := Lib.hid hN1
              have HN2 := Lib.hid hN2
              generalize gx.2.1.2.2.2 = q1 at *
              generalize gx.2.2.2.2.2 = q2 at *
              subst e1
              subst e2
              clear h1 hO1 hO2 hN1 hN2
              generalize wq = w7 at *
              go_upto_region 14 with (fail)
              refine region_list (by kernel_rfl) _ [.pointer (some ⟨w.heap.size, 3, none⟩), .slice (some ad) ts.length cap, .int .i64 (↑j), .pointer (some (ad.add (j * 5))), .agg #[.int .i64 y.kind, .string y.nam, .string y.vr, .slice Ay y.args.length cy, .string y.form], .pointer (some ⟨w.heap.size + 1, 3, none⟩), .slice (some ad') ts.length cap', .int .i64 (↑j), .pointer (some (ad'.add (j * 5))), .agg #[.int .i64 y'.kind, .string y'.nam, .string y'.vr, .slice Ay' y'.args.length cy', .string y'.form], .slice B1 X1.length d1, .slice B2 Y1.length d2, .bool true, .bool false] [true, true, true, true, true, true, true, true, true, true, true, true, true, true] (fun wq => AkS w (trmC 5 a vr (some ad) ts.length cap f) (trmC 5 a vr' (some ad') ts.length cap' f) (some ad) (some ad') ts ts' A1 A2 xs ys wq ∧ Below w7.heap.size w7 wq) (by kernel_rfl) (by simp [fin, finOn, dstAt, List.range, List.range.loop, Act.put]; rfl) (by kernel_rfl) ⟨HS.out.keep (below_drew (Below.refl _ _)), below_drew (Below.refl _ _)⟩ ?_ ?_
              · refine ⟨fun wq hI => ?_, fun wq hI => ?_, fun wq hI => ?_, fun wq hI => ?_, fun wq hI => ?_, fun wq hI => ?_, fun wq hI => ?_, fun wq hI => ?_, fun wq hI => ?_, fun wq hI => ?_, fun wq hI => ?_, fun wq hI => ?_, fun wq hI => ?_, fun wq hI => ?_, trivial⟩
                · exact Gives.value (v := .pointer (some ⟨w.heap.size, 3, none⟩)) (w' := wq) (by simp [go_sem]) ⟨rfl, hI⟩
                · have cJ := hI.1.k0.cell 3
                  dsimp only [trmC] at cJ
                  exact Gives.value (v := .slice (some ad) ts.length cap) (w' := wq) (by simp [go_sem, cJ]) ⟨rfl, hI⟩
                · exact Gives.value (v := .int .i64 (↑j)) (w' := wq) (by kernel_rfl) ⟨rfl, hI⟩
                · skip
                  exact Gives.value (v := .pointer (some (ad.add (j * 5)))) (w' := wq) (by simp [go_sem, hlt]; try omega) ⟨rfl, hI⟩
                · obtain ⟨-, d0, d1, d2, d3, d4, -⟩ := HP.out.keep hI.2
                  exact Gives.value (v := .agg #[.int .i64 y.kind, .string y.nam, .string y.vr, .slice Ay y.args.length cy, .string y.form]) (w' := wq) (by simp [go_sem, d0, d1, d2, d3, d4]) ⟨rfl, hI⟩
                · exact Gives.value (v := .pointer (some ⟨w.heap.size + 1, 3, none⟩)) (w' := wq) (by simp [go_sem]) ⟨rfl, hI⟩
                · have cJ := hI.1.k1.cell 3
                  dsimp only [trmC] at cJ
                  exact Gives.value (v := .slice (some ad') ts.length cap') (w' := wq) (by simp [go_sem, cJ]) ⟨rfl, hI⟩
                · exact Gives.value (v := .int .i64 (↑j)) (w' := wq) (by kernel_rfl) ⟨rfl, hI⟩
                · skip
                  exact Gives.value (v := .pointer (some (ad'.add (j * 5)))) (w' := wq) (by simp [go_sem, hlt]; try omega) ⟨rfl, hI⟩
                · obtain ⟨-, d0, d1, d2, d3, d4, -⟩ := HP2.out.keep hI.2
                  exact Gives.value (v := .agg #[.int .i64 y'.kind, .string y'.nam, .string y'.vr, .slice Ay' y'.args.length cy', .string y'.form]) (w' := wq) (by simp [go_sem, d0, d1, d2, d3, d4]) ⟨rfl, hI⟩
                · exact Gives.value (v := .slice B1 X1.length d1) (w' := wq) (by kernel_rfl) ⟨rfl, hI⟩
                · exact Gives.value (v := .slice B2 Y1.length d2) (w' := wq) (by kernel_rfl) ⟨rfl, hI⟩
                · refine Gives.call (f := 31) (args := #[.agg #[.int .i64 y.kind, .string y.nam, .string y.vr, .slice Ay y.args.length cy, .string y.form], .agg #[.int .i64 y'.kind, .string y'.nam, .string y'.vr, .slice Ay' y'.args.length cy', .string y'.form], .slice B1 X1.length d1, .slice B2 Y1.length d2]) (w' := wq) (by kernel_rfl) ((IH.out y y' _ _ B1 B2 d1 d2 X1 Y1 wq HCN.out HRR.out (by have := HLN.out; (try have := HXL.out); omega) (by have := HLN.out; (try have := HXL.out); omega) (HP.out.keep hI.2).whole (HP2.out.keep hI.2).whole (HN1.out.keep hI.2) (HN2.out.keep hI.2)).mono ?_)
                  rintro e wz ⟨rfl, hbz⟩
                  exact ⟨_, rfl, rfl, hI.1.keep hbz, hI.2.trans (hbz.mono hI.2.size)⟩
                · exact Gives.value (v := .bool false) (w' := wq) (by simp [go_sem]) ⟨rfl, hI⟩
              · intro wq hI
                have HS2 := Lib.hid hI.1
                clear HS hI
                generalize wq = w8 at *
                go_wp2_with fail
                go_roundw
                case rel => exact ⟨j + 1, by omega, by go_num, HS2⟩
                case measure => simp [intOf]; omega
          · have HRR := Lib.hid (show Alk (stkR xs.reverse ys.reverse) y y' by
              have h := HYY.out
              have hb : (decide (k = 5) && decide (j + 1 = ts.length)) = false := Bool.eq_false_iff.2 fun e => by
                rw [Bool.and_eq_true, decide_eq_true_eq, decide_eq_true_eq] at e
                exact hlast e
              rw [hb] at h
              exact h)
            have HN1 := Lib.hid HS.out.n1
            have HN2 := Lib.hid HS.out.n2
            by_cases h5 : k = 5
            · have q5 : (k == 5) = true := beq_iff_eq.2 h5
              have qj : ((j : Int) == (ts.length : Int) - 1) = false := by
                rw [beq_eq_false_iff_ne]
                intro e
                exact hlast ⟨h5, by omega⟩
              clear hlast h5
              go_upto_region 14 with (fail)
              clear x0 x3 w1x q5 qj
              refine region_list (by kernel_rfl) _ [.pointer (some ⟨w.heap.size, 3, none⟩), .slice (some ad) ts.length cap, .int .i64 (↑j), .pointer (some (ad.add (j * 5))), .agg #[.int .i64 y.kind, .string y.nam, .string y.vr, .slice Ay y.args.length cy, .string y.form], .pointer (some ⟨w.heap.size + 1, 3, none⟩), .slice (some ad') ts.length cap', .int .i64 (↑j), .pointer (some (ad'.add (j * 5))), .agg #[.int .i64 y'.kind, .string y'.nam, .string y'.vr, .slice Ay' y'.args.length cy', .string y'.form], .slice A1 xs.length c1, .slice A2 ys.length c2, .bool true, .bool false] [true, true, true, true, true, true, true, true, true, true, true, true, true, true] (fun wq => AkS w (trmC k a vr (some ad) ts.length cap f) (trmC k a vr' (some ad') ts.length cap' f) (some ad) (some ad') ts ts' A1 A2 xs ys wq ∧ Below wr.heap.size wr wq) (by kernel_rfl) (by simp [fin, finOn, dstAt, List.range, List.range.loop, Act.put]; rfl) (by kernel_rfl) ⟨HS.out.keep (below_drew (Below.refl _ _)), below_drew (Below.refl _ _)⟩ ?_ ?_
              · refine ⟨fun wq hI => ?_, fun wq hI => ?_, fun wq hI => ?_, fun wq hI => ?_, fun wq hI => ?_, fun wq hI => ?_, fun wq hI => ?_, fun wq hI => ?_, fun wq hI => ?_, fun wq hI => ?_, fun wq hI => ?_, fun wq hI => ?_, fun wq hI => ?_, fun wq hI => ?_, trivial⟩
                · exact Gives.value (v := .pointer (some ⟨w.heap.size, 3, none⟩)) (w' := wq) (by simp [go_sem]) ⟨rfl, hI⟩
                · have cJ := hI.1.k0.cell 3
                  dsimp only [trmC] at cJ
                  exact Gives.value (v := .slice (some ad) ts.length cap) (w' := wq) (by simp [go_sem, cJ]) ⟨rfl, hI⟩
                · exact Gives.value (v := .int .i64 (↑j)) (w' := wq) (by kernel_rfl) ⟨rfl, hI⟩
                · skip
                  exact Gives.value (v := .pointer (some (ad.add (j * 5)))) (w' := wq) (by simp [go_sem, hlt]; try omega) ⟨rfl, hI⟩
                · obtain ⟨-, d0, d1, d2, d3, d4, -⟩ := HP.out.keep hI.2
                  exact Gives.value (v := .agg #[.int .i64 y.kind, .string y.nam, .string y.vr, .slice Ay y.args.length cy, .string y.form]) (w' := wq) (by simp [go_sem, d0, d1, d2, d3, d4]) ⟨rfl, hI⟩
                · exact Gives.value (v := .pointer (some ⟨w.heap.size + 1, 3, none⟩)) (w' := wq) (by simp [go_sem]) ⟨rfl, hI⟩
                · have cJ := hI.1.k1.cell 3
                  dsimp only [trmC] at cJ
                  exact Gives.value (v := .slice (some ad') ts.length cap') (w' := wq) (by simp [go_sem, cJ]) ⟨rfl, hI⟩
                · exact Gives.value (v := .int .i64 (↑j)) (w' := wq) (by kernel_rfl) ⟨rfl, hI⟩
                · skip
                  exact Gives.value (v := .pointer (some (ad'.add (j * 5)))) (w' := wq) (by simp [go_sem, hlt]; try omega) ⟨rfl, hI⟩
                · obtain ⟨-, d0, d1, d2, d3, d4, -⟩ := HP2.out.keep hI.2
                  exact Gives.value (v := .agg #[.int .i64 y'.kind, .string y'.nam, .string y'.vr, .slice Ay' y'.args.length cy', .string y'.form]) (w' := wq) (by simp [go_sem, d0, d1, d2, d3, d4]) ⟨rfl, hI⟩
                · exact Gives.value (v := .slice A1 xs.length c1) (w' := wq) (by kernel_rfl) ⟨rfl, hI⟩
                · exact Gives.value (v := .slice A2 ys.length c2) (w' := wq) (by kernel_rfl) ⟨rfl, hI⟩
                · refine Gives.call (f := 31) (args := #[.agg #[.int .i64 y.kind, .string y.nam, .string y.vr, .slice Ay y.args.length cy, .string y.form], .agg #[.int .i64 y'.kind, .string y'.nam, .string y'.vr, .slice Ay' y'.args.length cy', .string y'.form], .slice A1 xs.length c1, .slice A2 ys.length c2]) (w' := wq) (by kernel_rfl) ((IH.out y y' _ _ A1 A2 c1 c2 xs ys wq HCN.out HRR.out (by have := HLN.out; (try have := HXL.out); omega) (by have := HLN.out; (try have := HXL.out); omega) (HP.out.keep hI.2).whole (HP2.out.keep hI.2).whole (HN1.out.keep hI.2) (HN2.out.keep hI.2)).mono ?_)
                  rintro e wz ⟨rfl, hbz⟩
                  exact ⟨_, rfl, rfl, hI.1.keep hbz, hI.2.trans (hbz.mono hI.2.size)⟩
                · exact Gives.value (v := .bool false) (w' := wq) (by simp [go_sem]) ⟨rfl, hI⟩
              · intro wq hI
                have HS2 := Lib.hid hI.1
                clear HS hI
                generalize wq = w8 at *
                go_wp2_with fail
                go_roundw
                case rel => exact ⟨j + 1, by omega, by go_num, HS2⟩
                case measure => simp [intOf]; omega
            · have q5 : (k == 5) = false := beq_eq_false_iff_ne.2 h5
              clear hlast h5
              go_upto_region 14 with (fail)
              clear x0 x3 w1x q5
              refine region_list (by kernel_rfl) _ [.pointer (some ⟨w.heap.size, 3, none⟩), .slice (some ad) ts.length cap, .int .i64 (↑j), .pointer (some (ad.add (j * 5))), .agg #[.int .i64 y.kind, .string y.nam, .string y.vr, .slice Ay y.args.length cy, .string y.form], .pointer (some ⟨w.heap.size + 1, 3, none⟩), .slice (some ad') ts.length cap', .int .i64 (↑j), .pointer (some (ad'.add (j * 5))), .agg #[.int .i64 y'.kind, .string y'.nam, .string y'.vr, .slice Ay' y'.args.length cy', .string y'.form], .slice A1 xs.length c1, .slice A2 ys.length c2, .bool true, .bool false] [true, true, true, true, true, true, true, true, true, true, true, true, true, true] (fun wq => AkS w (trmC k a vr (some ad) ts.length cap f) (trmC k a vr' (some ad') ts.length cap' f) (some ad) (some ad') ts ts' A1 A2 xs ys wq ∧ Below wr.heap.size wr wq) (by kernel_rfl) (by simp [fin, finOn, dstAt, List.range, List.range.loop, Act.put]; rfl) (by kernel_rfl) ⟨HS.out.keep (below_drew (Below.refl _ _)), below_drew (Below.refl _ _)⟩ ?_ ?_
              · refine ⟨fun wq hI => ?_, fun wq hI => ?_, fun wq hI => ?_, fun wq hI => ?_, fun wq hI => ?_, fun wq hI => ?_, fun wq hI => ?_, fun wq hI => ?_, fun wq hI => ?_, fun wq hI => ?_, fun wq hI => ?_, fun wq hI => ?_, fun wq hI => ?_, fun wq hI => ?_, trivial⟩
                · exact Gives.value (v := .pointer (some ⟨w.heap.size, 3, none⟩)) (w' := wq) (by simp [go_sem]) ⟨rfl, hI⟩
                · have cJ := hI.1.k0.cell 3
                  dsimp only [trmC] at cJ
                  exact Gives.value (v := .slice (some ad) ts.length cap) (w' := wq) (by simp [go_sem, cJ]) ⟨rfl, hI⟩
                · exact Gives.value (v := .int .i64 (↑j)) (w' := wq) (by kernel_rfl) ⟨rfl, hI⟩
                · skip
                  exact Gives.value (v := .pointer (some (ad.add (j * 5)))) (w' := wq) (by simp [go_sem, hlt]; try omega) ⟨rfl, hI⟩
                · obtain ⟨-, d0, d1, d2, d3, d4, -⟩ := HP.out.keep hI.2
                  exact Gives.value (v := .agg #[.int .i64 y.kind, .string y.nam, .string y.vr, .slice Ay y.args.length cy, .string y.form]) (w' := wq) (by simp [go_sem, d0, d1, d2, d3, d4]) ⟨rfl, hI⟩
                · exact Gives.value (v := .pointer (some ⟨w.heap.size + 1, 3, none⟩)) (w' := wq) (by simp [go_sem]) ⟨rfl, hI⟩
                · have cJ := hI.1.k1.cell 3
                  dsimp only [trmC] at cJ
                  exact Gives.value (v := .slice (some ad') ts.length cap') (w' := wq) (by simp [go_sem, cJ]) ⟨rfl, hI⟩
                · exact Gives.value (v := .int .i64 (↑j)) (w' := wq) (by kernel_rfl) ⟨rfl, hI⟩
                · skip
                  exact Gives.value (v := .pointer (some (ad'.add (j * 5)))) (w' := wq) (by simp [go_sem, hlt]; try omega) ⟨rfl, hI⟩
                · obtain ⟨-, d0, d1, d2, d3, d4, -⟩ := HP2.out.keep hI.2
                  exact Gives.value (v := .agg #[.int .i64 y'.kind, .string y'.nam, .string y'.vr, .slice Ay' y'.args.length cy', .string y'.form]) (w' := wq) (by simp [go_sem, d0, d1, d2, d3, d4]) ⟨rfl, hI⟩
                · exact Gives.value (v := .slice A1 xs.length c1) (w' := wq) (by kernel_rfl) ⟨rfl, hI⟩
                · exact Gives.value (v := .slice A2 ys.length c2) (w' := wq) (by kernel_rfl) ⟨rfl, hI⟩
                · refine Gives.call (f := 31) (args := #[.agg #[.int .i64 y.kind, .string y.nam, .string y.vr, .slice Ay y.args.length cy, .string y.form], .agg #[.int .i64 y'.kind, .string y'.nam, .string y'.vr, .slice Ay' y'.args.length cy', .string y'.form], .slice A1 xs.length c1, .slice A2 ys.length c2]) (w' := wq) (by kernel_rfl) ((IH.out y y' _ _ A1 A2 c1 c2 xs ys wq HCN.out HRR.out (by have := HLN.out; (try have := HXL.out); omega) (by have := HLN.out; (try have := HXL.out); omega) (HP.out.keep hI.2).whole (HP2.out.keep hI.2).whole (HN1.out.keep hI.2) (HN2.out.keep hI.2)).mono ?_)
                  rintro e wz ⟨rfl, hbz⟩
                  exact ⟨_, rfl, rfl, hI.1.keep hbz, hI.2.trans (hbz.mono hI.2.size)⟩
                · exact Gives.value (v := .bool false) (w' := wq) (by simp [go_sem]) ⟨rfl, hI⟩
              · intro wq hI
                have HS2 := Lib.hid hI.1
                clear HS hI
                generalize wq = w8 at *
                go_wp2_with fail
                go_roundw
                case rel => exact ⟨j + 1, by omega, by go_num, HS2⟩
                case measure => simp [intOf]; omega
        · obtain rfl : j = ts.length := by omega
          go_wp2_with fail
          go_ret
          exact ⟨rfl, HS.out.bel⟩
end Go.Proofs.YtpokelkneblafaaGreatDoor
