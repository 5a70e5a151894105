/- The map of the readings of each rule while the applications are gone through: the program's closure · A cell of the table -/
import Derived.Test.YthpioplpfmlgcaaGreatDoorH7807b471
import Derived.Maps.OwnOps
import Derived.Maps.OwnSet
import Derived.Maps.Views
namespace Go.Proofs.YthpioplpfmlgcaaGreatDoor.Ch
open Go.RowKit
/-- a slice's header as a closed datum -/
def hdrD : Value → DataW Unit
  | .slice (some a) n c => .agg [.lit (.int .i64 1), .lit (.int .i64 a.block), .lit (.int .i64 n), .lit (.int .i64 c)]
  | _ => .lit (.int .i64 0)
def hdrOk : Value → Bool
  | .slice none 0 0 => true
  | .slice (some ⟨_, 0, none⟩) _ _ => true
  | _ => false
def hdrE (v : Value) : Option (DataW Unit × List MemPlace) := if hdrOk v then some (hdrD v, []) else none
theorem hdr_inj {u v : Value} {ps : List MemPlace} (hu : hdrOk u = true) (h : hdrE v = some (hdrD u, ps)) : v = u := by
  unfold hdrE at h
  split at h
  · rename_i hv
    simp only [Option.some.injEq, Prod.mk.injEq] at h
    have h := h.1
    unfold hdrOk at hu hv
    split at hu
    · split at hv
      · rfl
      · simp [hdrD] at h
      · cases hv
    · split at hv
      · simp [hdrD] at h
      · simp only [hdrD, DataW.agg.injEq, List.cons.injEq, DataW.lit.injEq, Lit.int.injEq, true_and, and_true] at h
        obtain ⟨h1, h2, h3⟩ := h
        have e1 := Int.ofNat.inj h1
        have e2 := Int.ofNat.inj h2
        have e3 := Int.ofNat.inj h3
        subst e1 e2 e3
        rfl
      · cases hv
    · cases hu
  · cases h
theorem OwnP.ok {w : World} {B : Nat} {v : Value} {bs : List Nat} (h : OwnP w B v bs) : hdrOk v = true := by
  rcases h.2 with ⟨h1, _⟩ | ⟨g', cap', cur, h1, _⟩
  · rw [h1]; rfl
  · rw [h1]; rfl
theorem lawI : Maps.Keyed Tryz.prog 3 := Maps.int_keyed Tryz.underlying3
theorem zeroS (w : World) : (zeroValue 135).run Tryz.prog w = .ok (.slice none 0 0) w := by simp [Tryz.zeroValue135]
/-- the map: of each rule a slice of its own -/
structure MapS (w : World) (B bm : Nat) (rs : List Rul) (ts : List ByteArray) (i : Nat) (done : List App) (D : DataW Unit) (hd : Nat → Value) (bss : Nat → List Nat) : Prop where
  own : w.ownsMap Tryz.prog 3 hdrE bm done.length D
  at_ : ∀ r : Nat, D.atKey (.int .i64 r) (hdrD (.slice none 0 0)) = hdrD (hd r)
  rows : ∀ r, OwnP w B (hd r) (bss r)
  shs : ∀ r, Shs rs w (bss r) (gotR rs ts i r done)
  dis : ∀ r r', r ≠ r' → ∀ b, (hd r).ownBlock = some b → (hd r').ownBlock ≠ some b
theorem map_no_cells {w : World} {bm n : Nat} {D : DataW Unit} (h : w.ownsMap Tryz.prog 3 hdrE bm n D) {t : TypeId} {cs : Array Value} : ¬ Blk w bm t cs := by
  obtain ⟨es, clock, hb, _⟩ := h
  unfold Blk
  rw [hb]
  simp
theorem MapS.keep {w w' : World} {B bm : Nat} {rs : List Rul} {ts : List ByteArray} {i : Nat} {done : List App} {D : DataW Unit} {hd : Nat → Value} {bss : Nat → List Nat} (h : MapS w B bm rs ts i done D hd bss) (hb : Below w.heap.size w w') : MapS w' B bm rs ts i done D hd bss :=
  ⟨h.own.kept (row := none) ⟨hb.os, hb.tape, hb.output, hb.size, fun i hi _ => hb.block i hi⟩ (by simp), h.at_, fun r => (h.rows r).keep hb, fun r => (h.shs r).keep hb, h.dis⟩
theorem MapS.full {w : World} {B bm : Nat} {rs : List Rul} {ts : List ByteArray} {i : Nat} {done : List App} {D : DataW Unit} {hd : Nat → Value} {bss : Nat → List Nat} (h : MapS w B bm rs ts i done D hd bss) {a : App} (hf : ¬ (bss a.rule).length < 2) : MapS w B bm rs ts i (done ++ [a]) D hd bss := by
  refine ⟨h.own.mono (by simp), h.at_, h.rows, fun r => ?_, h.dis⟩
  rw [got_snoc]
  split
  · rename_i e
    subst e
    rw [got_full (by rw [← (h.shs a.rule).1]; exact hf)]
    exact h.shs _
  · exact h.shs r
/-- behind extend and the store -/
theorem MapS.put {w w1 w2 w0 : World} {bm : Nat} {rs : List Rul} {ts : List ByteArray} {i : Nat} {done : List App} {D : DataW Unit} {hd : Nat → Value} {bss : Nat → List Nat} (h : MapS w w0.heap.size bm rs ts i done D hd bss) {a : App} {v' : Value} {bs' : List Nat}
    (he : ExtS rs w0 w (hd a.rule) w1 v' bs' (gotR rs ts i a.rule done ++ addsR rs ts i a)) (hm : w2.ownsMap Tryz.prog 3 hdrE bm (done.length + 1) (D.put (.int .i64 a.rule) (hdrD v'))) (hg : w1.grownBy w2 (some bm)) (hm1 : ∀ t cs, ¬ Blk w1 bm t cs) :
    ∃ D' hd' bss', MapS w2 w0.heap.size bm rs ts i (done ++ [a]) D' hd' bss' := by
  have stay : ∀ g t cs, Blk w1 g t cs → Blk w2 g t cs := fun g t cs hb => hb.grown hg fun e => by
    obtain rfl := Option.some.inj e
    exact hm1 _ _ hb
  have row2 : ∀ v bs, OwnP w1 w0.heap.size v bs → OwnP w2 w0.heap.size v bs := fun v bs ho => by
    refine World.ownsRow.kept ho hg ?_
    cases hv : v.ownBlock with
    | none => exact .inl rfl
    | some b =>
      refine .inr fun e => ?_
      obtain rfl := Option.some.inj e
      obtain ⟨cs, hc⟩ := (ho.row _ hv).2.2
      exact hm1 _ _ hc
  have row1 : ∀ r, r ≠ a.rule → OwnP w1 w0.heap.size (hd r) (bss r) := fun r hr => by
    refine World.ownsRow.kept (h.rows r) he.grown ?_
    cases hv : (hd r).ownBlock with
    | none => exact .inl rfl
    | some b => exact .inr fun e => h.dis r a.rule hr b hv e.symm
  refine ⟨_, fun r => if r = a.rule then v' else hd r, fun r => if r = a.rule then bs' else bss r, by rw [List.length_append]; exact hm, fun r => ?_, fun r => ?_, fun r => ?_, fun r r' hne b hb => ?_⟩
  · show (D.put (.int .i64 a.rule) (hdrD v')).atKey _ _ = hdrD (if r = a.rule then v' else hd r)
    by_cases e : r = a.rule
    · rw [if_pos e, e]
      exact Maps.atKey_put_same (World.ownsMap.isMap h.own) (by trivial) _ _
    · rw [if_neg e, Maps.atKey_put_other (fun hh => e (by simp at hh; omega))]
      exact h.at_ r
  · show OwnP w2 _ (if r = a.rule then v' else hd r) (if r = a.rule then bs' else bss r)
    by_cases e : r = a.rule
    · rw [if_pos e, if_pos e]; exact row2 _ _ he.own
    · rw [if_neg e, if_neg e]; exact row2 _ _ (row1 r e)
  · show Shs rs w2 (if r = a.rule then bs' else bss r) _
    rw [got_snoc]
    by_cases e : r = a.rule
    · subst e
      rw [if_pos rfl, if_pos rfl]
      exact he.shs.map fun g cs hb => stay g _ cs hb
    · rw [if_neg e, if_neg (fun hh => e hh.symm)]
      exact ((h.shs r).grow he.grown fun r' hr' => ((h.rows a.rule).row r' hr').2.2).map fun g cs hb => stay g _ cs hb
  · have hlt : ∀ r b, (hd r).ownBlock = some b → b < w.heap.size := fun r b hb => ((h.rows r).row b hb).2.1
    show (if r' = a.rule then v' else hd r').ownBlock ≠ some b
    have hb : (if r = a.rule then v' else hd r).ownBlock = some b := hb
    by_cases e : r = a.rule
    · rw [if_pos e] at hb
      rw [if_neg (fun e' => hne (e.trans e'.symm))]
      rcases he.loc with h1 | ⟨b', h1, h2⟩
      · rw [h1] at hb
        exact h.dis a.rule r' (fun hh => hne (e.trans hh)) b hb
      · rw [h2] at hb
        obtain rfl := Option.some.inj hb
        intro hh
        have := hlt r' _ hh
        omega
    · rw [if_neg e] at hb
      by_cases e' : r' = a.rule
      · rw [if_pos e']
        rcases he.loc with h1 | ⟨b', h1, h2⟩
        · rw [h1]
          exact h.dis r a.rule e b hb
        · rw [h2]
          intro hh
          obtain rfl := Option.some.inj hh
          have := hlt r _ hb
          omega
      · rw [if_neg e']
        exact h.dis r r' hne b hb
/-- what the closure may lean on -/
structure CellS (w0 : World) (g gm gt gi bm : Nat) (rs : List Rul) (ts : List ByteArray) (i : Nat) (done : List App) (w : World) : Prop where
  vm : Blk w gm 187 #[.map (some bm)]
  vt : Blk w gt 133 #[ptrV g]
  vi : Blk w gi 3 #[.int .i64 i]
  below : Below w0.heap.size w0 w
  map : ∃ D hd bss, MapS w w0.heap.size bm rs ts i done D hd bss
  low : w0.heap.size ≤ bm
theorem CellS.keep {w0 : World} {g gm gt gi bm : Nat} {rs : List Rul} {ts : List ByteArray} {i : Nat} {done : List App} {w w' : World} (h : CellS w0 g gm gt gi bm rs ts i done w) (hb : Below w.heap.size w w') : CellS w0 g gm gt gi bm rs ts i done w' := by
  obtain ⟨h1, h2, h3, h4, ⟨D, hd, bss, h5⟩, h6⟩ := h
  exact ⟨_root_.Go.Proofs.YthpioplpfmlgcaaGreatDoor.keep hb h1, _root_.Go.Proofs.YthpioplpfmlgcaaGreatDoor.keep hb h2, _root_.Go.Proofs.YthpioplpfmlgcaaGreatDoor.keep hb h3, h4.trans (hb.mono h4.size), ⟨D, hd, bss, h5.keep hb⟩, h6⟩
theorem CellS.put {w0 : World} {g gm gt gi bm : Nat} {rs : List Rul} {ts : List ByteArray} {i : Nat} {done : List App} {w w1 w2 : World} {D : DataW Unit} {hd : Nat → Value} {bss : Nat → List Nat} {a : App} {v' : Value} {bs' : List Nat}
    (h1 : Blk w gm 187 #[.map (some bm)]) (h2 : Blk w gt 133 #[ptrV g]) (h3 : Blk w gi 3 #[.int .i64 i]) (h6 : w0.heap.size ≤ bm) (hM : MapS w w0.heap.size bm rs ts i done D hd bss)
    (he : ExtS rs w0 w (hd a.rule) w1 v' bs' (gotR rs ts i a.rule done ++ addsR rs ts i a)) (hm : w2.ownsMap Tryz.prog 3 hdrE bm (done.length + 1) (D.put (.int .i64 a.rule) (hdrD v'))) (hg : w1.grownBy w2 (some bm)) :
    CellS w0 g gm gt gi bm rs ts i (done ++ [a]) w2 ∧ ∀ k cs, Blk w k 167 cs → Blk w2 k 167 cs := by
  have hrow : ∀ r, (hd a.rule).ownBlock = some r → ∃ cs, Blk w r 137 cs := fun r hr => ((hM.rows a.rule).row r hr).2.2
  have hm1 : w1.ownsMap Tryz.prog 3 hdrE bm done.length D := hM.own.kept he.grown fun e => by
    obtain ⟨cs, hc⟩ := hrow bm e.symm
    exact map_no_cells hM.own hc
  have both : ∀ k t cs, t ≠ 137 → Blk w k t cs → Blk w2 k t cs := fun k t cs ht hb => by
    have hb1 := hb.stay he.grown hrow ht
    exact hb1.grown hg fun e => by
      obtain rfl := Option.some.inj e
      exact map_no_cells hm1 hb1
  refine ⟨⟨both _ _ _ (by decide) h1, both _ _ _ (by decide) h2, both _ _ _ (by decide) h3, he.below.grown hg he.below.size (fun k hk => by cases hk; exact h6), hM.put he hm hg (fun t cs => map_no_cells hm1), h6⟩, fun k cs hb => both _ _ _ (by decide) hb⟩
/-- the world while the closure stores -/
def InvC (w0 : World) (g gm gt gi bm : Nat) (rs : List Rul) (ts : List ByteArray) (i : Nat) (done : List App) (a : App) (wa : World) (hd : Nat → Value) : List Bool → Value × List Nat → World → Prop
  | [false, _], _, wq => Below wa.heap.size wa wq
  | [true, false], gx, wq => ∃ wb, Below wa.heap.size wa wb ∧ ExtS rs w0 wb (hd a.rule) wq gx.1 gx.2 (gotR rs ts i a.rule done ++ addsR rs ts i a)
  | [true, true], _, wq => CellS w0 g gm gt gi bm rs ts i (done ++ [a]) wq ∧ ∀ k cs, Blk wa k 167 cs → Blk wq k 167 cs
  | _, _, _ => False
theorem in_len {rs : List Rul} {ts : List ByteArray} {i j k : Nat} : (inA rs ts i j k).length ≤ 1 := by
  unfold inA
  split
  · split <;> simp
  · simp
theorem jux_len {rs : List Rul} {i j k : Nat} : (juxA rs i j k).length ≤ 1 := by
  unfold juxA
  split <;> simp
theorem mid_len {rs : List Rul} {ts : List ByteArray} {i j k : Nat} : (midA rs ts i j k).length ≤ 2 := by
  unfold midA
  rw [List.length_append]
  have h1 := in_len (rs := rs) (ts := ts) (i := i) (j := j) (k := k)
  have h2 := jux_len (rs := rs) (i := i) (j := j) (k := k)
  omega
theorem apps_len {rs : List Rul} {ts : List ByteArray} {i j : Nat} : (appsR rs ts i j).length ≤ 2 + 2 * (j - (i + 1)) := by
  unfold appsR
  rw [List.length_append, List.length_append]
  have h1 : (preA rs ts i j).length ≤ 1 := by
    unfold preA
    split
    · split <;> simp
    · simp
  have h2 : (postA rs ts i j).length ≤ 1 := by
    unfold postA
    split
    · split <;> simp
    · simp
  have h3 := flat_le (f := midA rs ts i j) (b := 2) (l := List.range' (i + 1) (j - (i + 1))) fun k _ => mid_len
  rw [List.length_range'] at h3
  omega
/-- the tokens that an application speaks of -/
theorem app_in {rs : List Rul} {ts : List ByteArray} {i j : Nat} (hij : i < j) {a : App} (h : a ∈ appsR rs ts i j) : a.rule < rs.length ∧ i ≤ a.frm ∧ a.frm < a.left ∧ a.left ≤ j ∧ a.left - a.frm < j - i ∧ (a.kids = 1 ∨ (a.kids = 2 ∧ i < a.right ∧ a.right < a.to ∧ a.to = j)) := by
  unfold appsR at h
  rw [List.mem_append, List.mem_append, List.mem_flatMap] at h
  have fr : ∀ {kind : Int} {s : List UInt8} {r : Nat}, findR rs kind s = some r → r < rs.length := fun h => by
    obtain ⟨x, hx, _⟩ := find_some h
    exact (List.getElem?_eq_some_iff.1 hx).1
  rcases h with (h | h) | ⟨k, hk, h⟩
  · unfold preA at h
    split at h
    · split at h
      · rw [List.mem_singleton] at h
        subst h
        exact ⟨fr ‹_›, by dsimp only; omega, by dsimp only; omega, by dsimp only; omega, by dsimp only; omega, .inl rfl⟩
      · cases h
    · cases h
  · unfold postA at h
    split at h
    · split at h
      · rw [List.mem_singleton] at h
        subst h
        exact ⟨fr ‹_›, by dsimp only; omega, by dsimp only; omega, by dsimp only; omega, by dsimp only; omega, .inl rfl⟩
      · cases h
    · cases h
  · have hkm := mem_range1 hk
    unfold midA at h
    rw [List.mem_append] at h
    rcases h with h | h
    · unfold inA at h
      split at h
      · split at h
        · rw [List.mem_singleton] at h
          subst h
          exact ⟨fr ‹_›, by dsimp only; omega, by dsimp only; omega, by dsimp only; omega, by dsimp only; omega, .inr ⟨rfl, by dsimp only; omega, by dsimp only; omega, rfl⟩⟩
        · cases h
      · cases h
    · unfold juxA at h
      split at h
      · rw [List.mem_singleton] at h
        subst h
        exact ⟨fr ‹_›, by dsimp only; omega, by dsimp only; omega, by dsimp only; omega, by dsimp only; omega, .inr ⟨rfl, by dsimp only; omega, by dsimp only; omega, rfl⟩⟩
      · cases h
theorem extend_any (g : Nat) (F : Fin) (rs : List Rul) (ts : List ByteArray) (gc : Nat) (rows : Nat → Nat) (fill : Nat → Nat → Bool) (a : App) (i j : Nat) (l : Value) (bs : List Nat) (xs : List Rd) (w0 w : World) (hT : TabAt w0 g F rs ts gc rows fill) (hb0 : Below w0.heap.size w0 w) (ho : OwnP w w0.heap.size l bs) (hs : Shs rs w bs xs) (hx : xs.length ≤ 2) (hij : i < j) (hj : j ≤ ts.length) (ha : a ∈ appsR rs ts i j) (hf : ∀ p q, i ≤ p → p < q → q ≤ j → q - p < j - i → fill p q = true) (hn : rs.length ≤ 1000000) :
    Calls Tryz.prog 147 #[ptrV g, l, .int .i64 i, .agg a.c] w (ExtP rs w0 l (xs ++ addsR rs ts i a) w) := by
  obtain ⟨r, frm, left, right, t2, kids⟩ := a
  obtain ⟨h1, h2, h3, h4, h5, h6⟩ := app_in hij ha
  dsimp only at h1 h2 h3 h4 h5 h6
  rcases h6 with rfl | ⟨rfl, h7, h8, h9⟩
  · exact extend_one g F rs ts gc rows fill r frm left right t2 i l bs xs w0 w hT hb0 ho hs hx h1 h3 (by omega) (hf _ _ h2 h3 h4 h5) hn
  · exact extend_two g F rs ts gc rows fill r frm left right t2 i l bs xs w0 w hT hb0 ho hs hx h1 h3 (by omega) (hf _ _ h2 h3 h4 h5) h8 (by omega) (hf _ _ (by omega) h8 (by omega) (by omega)) hn
theorem InvC.keeps {w0 : World} {g gm gt gi bm : Nat} {rs : List Rul} {ts : List ByteArray} {i : Nat} {done : List App} {a : App} {wa : World} {D : DataW Unit} {hd : Nat → Value} {bss : Nat → List Nat} {b10 b11 : Bool} {gx : Value × List Nat} {wq : World} (h : InvC w0 g gm gt gi bm rs ts i done a wa hd [b10, b11] gx wq) (hM : MapS wa w0.heap.size bm rs ts i done D hd bss) (h11 : b11 = false) {k : Nat} {t : TypeId} {cs : Array Value} (hk : Blk wa k t cs) (ht : t ≠ 137) (o : Nat) : wq.cell? ⟨k, o, none⟩ = cs[o]? := by
  subst h11
  cases b10
  · exact (_root_.Go.Proofs.YthpioplpfmlgcaaGreatDoor.keep h hk).cell o
  · obtain ⟨wb, hb, he⟩ := h
    exact ((_root_.Go.Proofs.YthpioplpfmlgcaaGreatDoor.keep hb hk).stay he.grown (fun r hr => (((hM.keep hb).rows a.rule).row r hr).2.2) ht).cell o
set_option maxRecDepth 100000 in
set_option maxHeartbeats 4000000 in
theorem visit_cell (g : Nat) (F : Fin) (rs : List Rul) (ts : List ByteArray) (gc : Nat) (rows : Nat → Nat) (fill : Nat → Nat → Bool) (i j gm gt gi bm : Nat) (w0 : World) (hT : TabAt w0 g F rs ts gc rows fill) (hij : i < j) (hj : j ≤ ts.length) (hf : ∀ p q, i ≤ p → p < q → q ≤ j → q - p < j - i → fill p q = true) (hn : rs.length ≤ 1000000) (hm : ts.length ≤ 1000000) :
    Visits 146 #[ptrV gm, ptrV gt, ptrV gi] rs ts i j (CellS w0 g gm gt gi bm rs ts i) := by
  intro done a m w hA hC
  have HT := Lib.hid hT
  have HFI := Lib.hid hf
  have HA := Lib.hid (show a ∈ appsR rs ts i j by rw [hA]; simp)
  have hr := (app_in hij HA.out).1
  have hdl : done.length ≤ 2000002 := by
    have h1 := apps_len (rs := rs) (ts := ts) (i := i) (j := j)
    rw [hA, List.length_append] at h1
    omega
  have HDN := Lib.hid (show done.length < maxLen by unfold maxLen; omega)
  clear hA hT hf hdl
  obtain ⟨r, frm, left, right, t2, kids⟩ := a
  dsimp only at hr
  have HKEY := Lib.hid (Maps.keyOf_int_mk (P := Tryz.prog) (k := 3) Tryz.underlying3 (q := .i64) (a := (r : Int)) (WalkArith.wf_i64 (by omega)))
  have HBA := Lib.hid (bel_alloc w (.cells #[.int .i64 r, .int .i64 frm, .int .i64 left, .int .i64 right, .int .i64 t2, .int .i64 kids] 190))
  have K0 := Lib.hid (Blk.new w 190 #[.int .i64 r, .int .i64 frm, .int .i64 left, .int .i64 right, .int .i64 t2, .int .i64 kids])
  obtain ⟨k1, k2, k3, hb, ⟨D, hd, bss, hM⟩, hlow⟩ := hC.keep HBA.out
  have K1 := Lib.hid k1
  have K2 := Lib.hid k2
  have K3 := Lib.hid k3
  have HB := Lib.hid hb
  have HM := Lib.hid hM
  have HLOW := Lib.hid hlow
  clear hb hM hlow k1 k2 k3 hC
  obtain ⟨A5, cap5, e5, hcl5, _, _⟩ := (HM.out.rows r).form
  obtain ⟨v, ps, hrun, hv⟩ := HM.out.own.lookup lawI Tryz.underlying187 (zeroS _) (show hdrE (.slice none 0 0) = some (hdrD (.slice none 0 0), []) from rfl) HKEY.out
  obtain rfl := hdr_inj (HM.out.rows r).ok (by rw [← HM.out.at_ r]; exact hv)
  rw [e5] at hrun
  clear hv
  have c1 := K1.out.cell 0
  rw [show (#[Value.agg (App.c ⟨r, frm, left, right, t2, kids⟩)] ++ #[ptrV gm, ptrV gt, ptrV gi] : Array Value) = #[.agg #[.int .i64 r, .int .i64 frm, .int .i64 left, .int .i64 right, .int .i64 t2, .int .i64 kids], ptrV gm, ptrV gt, ptrV gi] from rfl]
  by_cases hl2 : (bss r).length < 2
  · have q1 : ((bss r).length : Int) < 2 := by omega
    go_enter Tryz.func146, Tryz.ntmps146
    go_upto_region 2 with (fail)
    clear hrun c1 e5 q1
    generalize w.alloc (.cells _ 190) = w1 at *
    refine region_ghost (X := Value × List Nat) (by kernel_rfl) _ (fun gx => [.map (some bm), .pointer (some ⟨w.heap.size, 0, none⟩), .int .i64 r, .pointer (some ⟨g, 0, none⟩), .map (some bm), .pointer (some ⟨w.heap.size, 0, none⟩), .int .i64 r, hd r, .int .i64 i, .agg #[.int .i64 r, .int .i64 frm, .int .i64 left, .int .i64 right, .int .i64 t2, .int .i64 kids], gx.1, undef]) [true, true, true, true, true, true, true, true, true, true, true, true] [10, 11] (InvC w0 g gm gt gi bm rs ts i done ⟨r, frm, left, right, t2, kids⟩ w1 hd) (.nilFunc, []) (by kernel_rfl) (fun gx => by simp [fin, finOn, dstAt, List.range, List.range.loop, Act.put]; rfl) (fun _ => by kernel_rfl) (by kernel_rfl) (below_drew (Below.refl _ _)) ?_ ?_
    · refine ⟨fun L gx wq hL hb ha hI => ?_, fun L gx wq hL hb ha hI => ?_, fun L gx wq hL hb ha hI => ?_, fun L gx wq hL hb ha hI => ?_, fun L gx wq hL hb ha hI => ?_, fun L gx wq hL hb ha hI => ?_, fun L gx wq hL hb ha hI => ?_, fun L gx wq hL hb ha hI => ?_, fun L gx wq hL hb ha hI => ?_, fun L gx wq hL hb ha hI => ?_, fun L gx wq hL hb ha hI => ?_, fun L gx wq hL hb ha hI => ?_, trivial⟩
      · have cJ := InvC.keeps hI HM.out (ha 11 (by kernel_rfl)) K1.out (by decide) 0
        exact Gives.plain (v := .map (some bm)) (w' := wq) (by simp [go_sem, cJ]) rfl hI
      · exact Gives.plain (v := .pointer (some ⟨w.heap.size, 0, none⟩)) (w' := wq) (by simp [go_sem]) rfl hI
      · have cJ := InvC.keeps hI HM.out (ha 11 (by kernel_rfl)) K0.out (by decide) 0
        exact Gives.plain (v := .int .i64 r) (w' := wq) (by simp [go_sem, cJ]) rfl hI
      · have cJ := InvC.keeps hI HM.out (ha 11 (by kernel_rfl)) K2.out (by decide) 0
        exact Gives.plain (v := .pointer (some ⟨g, 0, none⟩)) (w' := wq) (by simp [go_sem, cJ]) rfl hI
      · have cJ := InvC.keeps hI HM.out (ha 11 (by kernel_rfl)) K1.out (by decide) 0
        exact Gives.plain (v := .map (some bm)) (w' := wq) (by simp [go_sem, cJ]) rfl hI
      · exact Gives.plain (v := .pointer (some ⟨w.heap.size, 0, none⟩)) (w' := wq) (by simp [go_sem]) rfl hI
      · have cJ := InvC.keeps hI HM.out (ha 11 (by kernel_rfl)) K0.out (by decide) 0
        exact Gives.plain (v := .int .i64 r) (w' := wq) (by simp [go_sem, cJ]) rfl hI
      · have e10 : L 10 = false := ha 10 (by kernel_rfl)
        have hI9 := hI
        simp only [List.map, e10] at hI9
        obtain ⟨v, ps, hrun, hv⟩ := (HM.out.keep hI9).own.lookup lawI Tryz.underlying187 (zeroS wq) (show hdrE (.slice none 0 0) = some (hdrD (.slice none 0 0), []) from rfl) HKEY.out
        obtain rfl := hdr_inj (HM.out.rows r).ok (by rw [← HM.out.at_ r]; exact hv)
        exact Gives.plain (v := hd r) (w' := wq) (by simp [go_sem, hrun]) rfl hI
      · have cJ := InvC.keeps hI HM.out (ha 11 (by kernel_rfl)) K3.out (by decide) 0
        exact Gives.plain (v := .int .i64 i) (w' := wq) (by simp [go_sem, cJ]) rfl hI
      · have cJ := fun k => InvC.keeps hI HM.out (ha 11 (by kernel_rfl)) K0.out (by decide) k
        exact Gives.plain (v := .agg #[.int .i64 r, .int .i64 frm, .int .i64 left, .int .i64 right, .int .i64 t2, .int .i64 kids]) (w' := wq) (by simp [go_sem, cJ]) rfl hI
      · have e10 : L 10 = false := hL
        have e11 : L 11 = false := ha 11 (by kernel_rfl)
        simp only [List.map, e10, e11] at hI ⊢
        refine Gives.call (f := 147) (args := #[.pointer (some ⟨g, 0, none⟩), hd r, .int .i64 i, .agg #[.int .i64 r, .int .i64 frm, .int .i64 left, .int .i64 right, .int .i64 t2, .int .i64 kids]]) (w' := wq) (by kernel_rfl) ((extend_any g F rs ts gc rows fill ⟨r, frm, left, right, t2, kids⟩ i j (hd r) (bss r) (gotR rs ts i r done) w0 wq HT.out (HB.out.trans (Below.mono hI HB.out.size)) ((HM.out.rows r).keep hI) ((HM.out.shs r).keep hI) got_len hij hj HA.out HFI.out hn).mono ?_)
        rintro e wa ⟨v', bs', rfl, he⟩
        exact ⟨_, rfl, (v', bs'), rfl, (KeepsV.of_same ⟨.inr (.inr rfl), .inr (.inr rfl), .inr (.inr rfl), .inr (.inr rfl), .inr (.inr rfl), .inr (.inr rfl), .inr (.inr rfl), .inr (.inr rfl), .inr (.inr rfl), .inr (.inr rfl), .inl rfl, .inr (.inr rfl), trivial⟩), wq, hI, he⟩
      · have e10 : L 10 = true := hb 10 (by kernel_rfl)
        have e11 : L 11 = false := hL
        simp only [List.map, e10, e11] at hI ⊢
        obtain ⟨wb, hbb, he⟩ := hI
        have HMb := HM.out.keep hbb
        have hm1 := HMb.own.kept he.grown (fun e => by
          obtain ⟨cs, hc⟩ := ((HMb.rows r).row bm e.symm).2.2
          exact map_no_cells HMb.own hc)
        obtain ⟨w2, hrun, hm2, hg2⟩ := hm1.update lawI Tryz.underlying187 HDN.out HKEY.out (show hdrE gx.1 = some (hdrD gx.1, []) by unfold hdrE; rw [he.own.ok]; rfl)
        have hfin := CellS.put (a := ⟨r, frm, left, right, t2, kids⟩) (keep hbb K1.out) (keep hbb K2.out) (keep hbb K3.out) HLOW.out HMb he hm2 hg2
        exact Gives.skip (w' := w2) (by simp [go_sem, hrun]) ⟨gx, rfl, KeepsV.same, hfin.1, fun k cs hk => hfin.2 k cs (keep hbb hk)⟩
    · intro gx wq hI
      obtain ⟨hc, hk⟩ := hI
      go_wp2_with fail
      go_end0
      exact ⟨rfl, hc, fun k cs hb => hk k cs (keep HBA.out hb)⟩
  · have hf := HM.out.full (a := ⟨r, frm, left, right, t2, kids⟩) hl2
    have HF := Lib.hid hf
    have q1 : ¬ ((bss r).length : Int) < 2 := by omega
    clear hf
    go_enter Tryz.func146, Tryz.ntmps146
    go_wp2_with fail
    go_end0
    exact ⟨rfl, ⟨K1.out, K2.out, K3.out, HB.out, ⟨_, _, _, HF.out⟩, HLOW.out⟩, fun k cs hb => keep HBA.out hb⟩
end Go.Proofs.YthpioplpfmlgcaaGreatDoor.Ch
namespace Go.Proofs.YthpioplpfmlgcaaGreatDoor.Ch
open Go.RowKit
theorem MapS.stay {w w' : World} {B B' bm : Nat} {rs : List Rul} {ts : List ByteArray} {i : Nat} {done : List App} {D : DataW Unit} {hd : Nat → Value} {bss : Nat → List Nat} (h : MapS w B bm rs ts i done D hd bss) {v : Value} {bs : List Nat} (ho : OwnP w B' v bs) (hg : w.grownBy w' v.ownBlock) (hf : ∀ r b, (hd r).ownBlock = some b → v.ownBlock ≠ some b) : MapS w' B bm rs ts i done D hd bss := by
  refine ⟨h.own.kept hg fun e => ?_, h.at_, fun r => ?_, fun r => (h.shs r).grow hg fun r' hr' => (ho.row r' hr').2.2, h.dis⟩
  · obtain ⟨cs, hc⟩ := (ho.row bm e.symm).2.2
    exact map_no_cells h.own hc
  · refine World.ownsRow.kept (h.rows r) hg ?_
    cases hv : (hd r).ownBlock with
    | none => exact .inl rfl
    | some b => exact .inr fun e => hf r b hv e.symm
theorem MapS.made {w : World} {rs : List Rul} {ts : List ByteArray} {i : Nat} : MapS (w.alloc (.map #[] 0)) w.heap.size w.heap.size rs ts i [] (.map []) (fun _ => .slice none 0 0) (fun _ => []) :=
  ⟨World.ownsMap_made _ _ _ _, fun r => rfl, fun r => OwnP.nil _ _, fun r => Shs.nil, fun r r' _ b h => by cases h⟩
def InvE (w4 w6 : World) (g gm gt gi bm : Nat) (rs : List Rul) (ts : List ByteArray) (i j : Nat) : List Bool → Unit → World → Prop
  | [false], _, wq => Below w6.heap.size w6 wq
  | [true], _, wq => CellS w4 g gm gt gi bm rs ts i (appsR rs ts i j) wq
  | _, _, _ => False
theorem base_one {ts : List ByteArray} {i j : Nat} (h : j = i + 1 ∧ tokB ts i opndL = true) : baseR ts i j = [.mk (-1) i []] := by unfold baseR; rw [if_pos h]
theorem base_no {ts : List ByteArray} {i j : Nat} (h : ¬ (j = i + 1 ∧ tokB ts i opndL = true)) : baseR ts i j = [] := by unfold baseR; rw [if_neg h]
theorem range_flat {α : Type} (f : Nat → List α) (r : Nat) : (List.range (r + 1)).flatMap f = (List.range r).flatMap f ++ f r := by
  rw [List.range_succ, List.flatMap_append]
  simp
theorem got_all_len {rs : List Rul} {ts : List ByteArray} {i r : Nat} {l : List App} : ((List.range r).flatMap fun n => gotR rs ts i n l).length ≤ 2 * r := by
  have := flat_le (f := fun n => gotR rs ts i n l) (b := 2) (l := List.range r) fun n _ => got_len
  rw [List.length_range] at this
  omega
theorem ptrs_app {w : World} {B : Nat} {v : Value} {bs cs : List Nat} (h : w.ownsRow B 137 1 v (bs.length + cs.length) (bs.map ptrV ++ cs.map ptrV)) : OwnP w B v (bs ++ cs) := by
  unfold OwnP
  rw [List.length_append, List.map_append]
  exact h
theorem ptr_one {bs : List Nat} : ∀ u ∈ bs.map ptrV, u.oneCell' = true := by
  intro u hu
  obtain ⟨b, _, rfl⟩ := List.mem_map.1 hu
  rfl
set_option maxRecDepth 100000 in
set_option maxHeartbeats 4000000 in
theorem cell_any (g : Nat) (F : Fin) (rs : List Rul) (ts : List ByteArray) (gc : Nat) (rows : Nat → Nat) (fill : Nat → Nat → Bool) (i j : Nat) (w : World) (hv : validB rs = true) (hT : TabAt w g F rs ts gc rows fill) (hij : i < j) (hj : j ≤ ts.length) (hf : ∀ p q, i ≤ p → p < q → q ≤ j → q - p < j - i → fill p q = true) (hn : rs.length ≤ 1000000) (hm : ts.length ≤ 1000000) :
    Calls Tryz.prog 127 #[ptrV g, .int .i64 i, .int .i64 j] w (ReadsP rs (cellR rs ts i j) w) := by
  obtain ⟨i0, hi, hz0, hz1, hz2⟩ := info_parts info_ptr
  obtain ⟨R, cR, T, cT, I, cI, P, cP, Q, cQ⟩ := F
  have HQ := Lib.hid (cell_got hv hij hj)
  have hmf : ∀ (fn : Fn) (first cap : Array Value) (w : World), (Instr.makeFunc fn first cap).run Tryz.prog w = .ok (.func fn first cap) w := fun _ _ _ _ => rfl
  have hmm := @run_makeMap Tryz.prog
  have hba := (bel_alloc w (.cells #[ptrV g] 133)).trans ((bel_alloc (w.alloc (.cells #[ptrV g] 133)) (.cells #[.int .i64 i] 3)).mono (by simp))
  have HT := Lib.hid (hT.keep hba)
  have HB := Lib.hid hba
  have K2 := Lib.hid ((Blk.new w 133 #[ptrV g]).alloc (.cells #[.int .i64 i] 3))
  have K3 := Blk.new (w.alloc (.cells #[ptrV g] 133)) 3 #[.int .i64 i]
  rw [World.size_alloc] at K3
  have K3 := Lib.hid K3
  have HFI := Lib.hid hf
  clear hba hT hf hv
  have hjn : j ≤ ts.length := hj
  obtain ⟨s, hs⟩ : ∃ s, ts[i]? = some s := ⟨_, List.getElem?_eq_getElem (by omega)⟩
  have HTB := Lib.hid (show tokB ts i opndL = (s.toList == opndL) by unfold tokB; rw [hs])
  obtain ⟨_, adT, hAT, hTl, ctk⟩ := HT.out.fin.toks i s hs
  dsimp only at hAT
  subst hAT
  clear hs
  go_enter Tryz.func127, Tryz.ntmps127
  go_upto_region 2 with (fail)
  generalize (w.alloc (.cells #[ptrV g] 133)).alloc (.cells #[.int .i64 i] 3) = w1 at *
  have hOP : (⟨#[35]⟩ : ByteArray).toList = opndL := by rw [ByteArray.toList_eq]; rfl
  go_cut [24] (fun b wc => b = .bool (!(baseR ts i j).isEmpty) ∧ ∃ n, wc = w1.drewN n)
  case first =>
    by_cases hji : j = i + 1
    · have hjd : ((j : Int) == (i : Int) + 1) = true := by rw [beq_iff_eq]; omega
      have ct1 := HT.out.blk.cell 1
      have ci := K3.out.cell 0
      have ctv := K2.out.cell 0
      have hin : (i : Int) < (ts.length : Int) := by omega
      dsimp only at ct1
      have HBQ := Lib.hid (show (!(baseR ts i j).isEmpty) = (s.toList == opndL) by
        cases hq : (s.toList == opndL)
        · rw [base_no (fun h => by rw [HTB.out, hq] at h; exact absurd h.2 (by simp))]; rfl
        · rw [base_one ⟨hji, by rw [HTB.out]; exact hq⟩]; rfl)
      clear hji hOP
      go_quiet (fail)
      go_wp2_with fail
      go_meet
      exact ⟨by rw [HBQ.out]; rfl, ⟨_, rfl⟩⟩
    · have hjd : ((j : Int) == (i : Int) + 1) = false := by rw [beq_eq_false_iff_ne]; omega
      have ci := K3.out.cell 0
      have HBQ := Lib.hid (show (!(baseR ts i j).isEmpty) = false by rw [base_no (fun h => hji h.1)]; rfl)
      clear hji hOP
      go_quiet (fail)
      go_wp2_with fail
      go_meet
      exact ⟨by rw [HBQ.out], ⟨_, rfl⟩⟩
  case rest =>
    clear ctk hTl hOP
    obtain ⟨rfl, nq, hw⟩ := hcut
    subst hw
    have HT := Lib.hid (HT.out.keep (below_drewN (Below.refl _ _) nq))
    have HB := Lib.hid (below_drewN HB.out nq)
    have K2 := Lib.hid (Blk.drewN K2.out nq)
    have K3 := Lib.hid (Blk.drewN K3.out nq)
    generalize w1.drewN nq = w2 at *
    go_upto_if 24 with (fail)
    go_cut [7] (fun v wc => ∃ bs, Hid (OwnP wc w.heap.size v bs) ∧ Hid (Shs rs wc bs (baseR ts i j)) ∧ Hid (Below w2.heap.size w2 wc))
    case first =>
      by_cases hb : j = i + 1 ∧ tokB ts i opndL = true
      · have HBQ := Lib.hid (base_one hb)
        rw [HBQ.out]
        have ci := K3.out.cell 0
        clear hb
        have hbx := (bel_alloc w2 (.cells (shC rs (-1) i (.pointer none) (.pointer none)) 176)).trans ((bel_alloc (w2.alloc (.cells (shC rs (-1) i (.pointer none) (.pointer none)) 176)) (.cells #[ptrV w2.heap.size] 137)).mono (by simp))
        have KS := Lib.hid ((Blk.new w2 176 (shC rs (-1) i (.pointer none) (.pointer none))).alloc (.cells #[ptrV w2.heap.size] 137))
        have hown : World.ownsRow _ w.heap.size 137 1 (.slice none 0 0) 0 [] := OwnP.nil ((w2.alloc (.cells (shC rs (-1) i (.pointer none) (.pointer none)) 176)).alloc (.cells #[ptrV w2.heap.size] 137)) w.heap.size
        have cn := cells_new (w2.alloc (.cells (shC rs (-1) i (.pointer none) (.pointer none)) 176)) [ptrV w2.heap.size] 137
        rw [World.size_alloc] at cn
        have HSZ := Lib.hid HB.out.size
        have HBX := Lib.hid hbx
        clear hbx
        rw [show shC rs (-1) i (.pointer none) (.pointer none) = #[.int .i64 (-1), .int .i64 i, .int .i64 101, .pointer none, .pointer none] from rfl] at cn hown
        go_wp2_with (at_builtin; refine wpList_append_own_at _ rfl (.tmp 25) (.tmp 29) 135 rfl w.heap.size 137 i0 (.pointer none) 1 8 Tryz.underlying135 hi hz0 hz1 hz2 rfl (by decide) _ _ _ rfl hown ⟨w2.heap.size + 1, 0, none⟩ 1 1 [ptrV w2.heap.size] rfl rfl cn ?c2a ?c3a ?c4a ?c5a ?_)
        case c2a => intro u hu; simp at hu; subst hu; rfl
        case c3a => unfold maxLen; omega
        case c4a => omega
        case c5a => have := HSZ.out; simp; omega
        intro v' w4 hown' hgrow _ hloc
        have M0 := Lib.hid (ptrs_snoc (bs := []) (b := w2.heap.size) rfl hown')
        have M1 := Lib.hid (Shs.snoc (rs := rs) Shs.nil (ShAt.leaf _ _ _ (KS.out.grown hgrow (by simp [Value.ownBlock]))))
        have M2 := Lib.hid (HBX.out.grown hgrow HBX.out.size (fun k hk => by simp [Value.ownBlock] at hk))
        clear hown hown' hgrow hloc cn KS ci
        go_wp2_with fail
        go_meet
        exact ⟨_, M0, by rw [HBQ.out]; exact M1, M2⟩
      · have HBQ := Lib.hid (base_no hb)
        rw [HBQ.out]
        clear hb
        go_wp2_with fail
        go_meet
        exact ⟨[], OwnP.nil _ _, by rw [HBQ.out]; exact Shs.nil, Below.refl _ _⟩
    case rest =>
      obtain ⟨bs, HO, HS, hb⟩ := hcut
      have HT := Lib.hid (HT.out.keep hb.out)
      have HB := Lib.hid (HB.out.trans (hb.out.mono HB.out.size))
      have K2 := Lib.hid (keep hb.out K2.out)
      have K3 := Lib.hid (keep hb.out K3.out)
      generalize wc = w4 at *
      clear hb
      have HO4 := HO
      go_upto_region 5 with (fail)
      have hbx := (bel_alloc w4 (.map #[] 0)).trans ((bel_alloc (w4.alloc (.map #[] 0)) (.cells #[.map (some w4.heap.size)] 187)).mono (by simp))
      have K1 := Blk.new (w4.alloc (.map #[] 0)) 187 #[.map (some w4.heap.size)]
      rw [World.size_alloc] at K1
      have HC0 := Lib.hid (show CellS w4 g (w4.heap.size + 1) w.heap.size (w.heap.size + 1) w4.heap.size rs ts i [] _ from ⟨K1, keep hbx K2.out, keep hbx K3.out, hbx, ⟨_, _, _, MapS.made.keep ((bel_alloc (w4.alloc (.map #[] 0)) (.cells #[.map (some w4.heap.size)] 187)))⟩, Nat.le_refl _⟩)
      have HT6 := Lib.hid (HT.out.keep hbx)
      clear hbx K1 hmm
      generalize (w4.alloc (.map #[] 0)).alloc (.cells _ 187) = w6 at *
      refine region_ghost (X := Unit) (by kernel_rfl) _ (fun gx => [.pointer (some ⟨g, 0, none⟩), .pointer (some ⟨g, 0, none⟩), .pointer (some ⟨g, 0, none⟩), .agg #[.slice R rs.length cR, .slice (some adT) ts.length cT, .slice I ts.length cI, .slice P ts.length cP, .slice Q ts.length cQ, .int .i64 (findI rs 4 [])], .int .i64 i, .int .i64 j, .func (.func 146) #[] #[.pointer (some ⟨w4.heap.size + 1, 0, none⟩), .pointer (some ⟨w.heap.size, 0, none⟩), .pointer (some ⟨w.heap.size + 1, 0, none⟩)], undef]) [true, true, true, true, true, true, true, true] [7] (InvE w4 w6 g (w4.heap.size + 1) w.heap.size (w.heap.size + 1) w4.heap.size rs ts i j) () (by kernel_rfl) (fun gx => by simp [fin, finOn, dstAt, List.range, List.range.loop, Act.put]; rfl) (fun _ => by kernel_rfl) (by kernel_rfl) (below_drew (Below.refl _ _)) ?_ ?_
      · refine ⟨fun L gx wq hL hb ha hI => ?_, fun L gx wq hL hb ha hI => ?_, fun L gx wq hL hb ha hI => ?_, fun L gx wq hL hb ha hI => ?_, fun L gx wq hL hb ha hI => ?_, fun L gx wq hL hb ha hI => ?_, fun L gx wq hL hb ha hI => ?_, fun L gx wq hL hb ha hI => ?_, trivial⟩
        · have e7 : L 7 = false := ha 7 (by kernel_rfl)
          have hI9 := hI
          simp only [List.map, e7] at hI9
          have cJ := (HC0.out.keep hI9).vt.cell 0
          exact Gives.plain (v := .pointer (some ⟨g, 0, none⟩)) (w' := wq) (by simp [go_sem, cJ]) rfl hI
        · exact Gives.plain (v := .pointer (some ⟨g, 0, none⟩)) (w' := wq) (by simp [go_sem]) rfl hI
        · exact Gives.plain (v := .pointer (some ⟨g, 0, none⟩)) (w' := wq) (by simp [go_sem]) rfl hI
        · have e7 : L 7 = false := ha 7 (by kernel_rfl)
          have hI9 := hI
          simp only [List.map, e7] at hI9
          have cJ := fun k => (HT6.out.keep hI9).blk.cell k
          exact Gives.plain (v := .agg #[.slice R rs.length cR, .slice (some adT) ts.length cT, .slice I ts.length cI, .slice P ts.length cP, .slice Q ts.length cQ, .int .i64 (findI rs 4 [])]) (w' := wq) (by simp [go_sem, cJ]) rfl hI
        · have e7 : L 7 = false := ha 7 (by kernel_rfl)
          have hI9 := hI
          simp only [List.map, e7] at hI9
          have cJ := (HC0.out.keep hI9).vi.cell 0
          exact Gives.plain (v := .int .i64 i) (w' := wq) (by simp [go_sem, cJ]) rfl hI
        · exact Gives.plain (v := .int .i64 j) (w' := wq) (by kernel_rfl) rfl hI
        · exact Gives.plain (v := .func (.func 146) #[] #[.pointer (some ⟨w4.heap.size + 1, 0, none⟩), .pointer (some ⟨w.heap.size, 0, none⟩), .pointer (some ⟨w.heap.size + 1, 0, none⟩)]) (w' := wq) (by simp [go_sem]) rfl hI
        · have e7 : L 7 = false := hL
          simp only [List.map, e7] at hI ⊢
          refine Gives.call (f := 145) (args := #[.agg #[.slice R rs.length cR, .slice (some adT) ts.length cT, .slice I ts.length cI, .slice P ts.length cP, .slice Q ts.length cQ, .int .i64 (findI rs 4 [])], .int .i64 i, .int .i64 j, .func (.func 146) #[] #[.pointer (some ⟨w4.heap.size + 1, 0, none⟩), .pointer (some ⟨w.heap.size, 0, none⟩), .pointer (some ⟨w.heap.size + 1, 0, none⟩)]]) (w' := wq) (by kernel_rfl) ((apps_any 146 #[ptrV (w4.heap.size + 1), ptrV w.heap.size, ptrV (w.heap.size + 1)] ⟨R, cR, (some adT), cT, I, cI, P, cP, Q, cQ⟩ rs ts i j (CellS w4 g (w4.heap.size + 1) w.heap.size (w.heap.size + 1) w4.heap.size rs ts i) wq hij hj hm (fun l w hc => HT.out.fin.keep hc.below) (fun l w w' hc hb => hc.keep hb) (visit_cell g _ rs ts gc rows fill i j _ _ _ _ w4 HT.out hij hj HFI.out hn hm) (HC0.out.keep hI) (fun _ _ => by rfl)).mono ?_)
          rintro e wa ⟨rfl, hc⟩
          exact ⟨_, rfl, (), rfl, KeepsV.same, hc⟩
      · intro gx wq hI
        have HC : Hid (CellS w4 g (w4.heap.size + 1) w.heap.size (w.heap.size + 1) w4.heap.size rs ts i (appsR rs ts i j) wq) := hI
        clear hI HC0 HT6
        obtain ⟨k1, k2, k3, hb, ⟨D, hd, bss, hM⟩, _⟩ := HC.out
        have K1 := Lib.hid k1
        have K2 := Lib.hid k2
        have HM := Lib.hid hM
        have HW := Lib.hid (HB.out.trans (hb.mono HB.out.size))
        have HO := Lib.hid (HO.out.keep hb)
        have HS := Lib.hid (HS.out.keep hb)
        have HT := Lib.hid (HT.out.keep hb)
        have HFR := Lib.hid (show ∀ r b, (hd r).ownBlock = some b → u7.ownBlock ≠ some b from fun r b h1 h2 => by
          have := ((hM.rows r).row b h1).1
          have := (HO4.out.row b h2).2.1
          omega)
        clear k1 k2 k3 hb hM HC K3 HO4 hmf
        have ctv := K2.out.cell 0
        have ct0 := HT.out.blk.cell 0
        dsimp only at ct0
        go_wp2_with fail
        clear ctv ct0
        go_loopw [7, 46] (fun v n wr => ∃ (r : Nat) (bs : List Nat), r ≤ rs.length ∧ n = .int .i64 r ∧ Hid (OwnP wr w.heap.size v bs) ∧ Hid (Shs rs wr bs (baseR ts i j ++ (List.range r).flatMap fun n => gotR rs ts i n (appsR rs ts i j))) ∧ Hid (MapS wr w4.heap.size w4.heap.size rs ts i (appsR rs ts i j) D hd bss) ∧ Hid (Blk wr (w4.heap.size + 1) 187 #[.map (some w4.heap.size)]) ∧ Hid (Below w.heap.size w wr) ∧ Hid (∀ r b, (hd r).ownBlock = some b → v.ownBlock ≠ some b)) (fun _ n _ => rs.length - (intOf n).toNat)
        case atStart => exact ⟨0, bs, by omega, rfl, HO, by rw [show (List.range 0).flatMap (fun n => gotR rs ts i n (appsR rs ts i j)) = [] from rfl, List.append_nil]; exact HS, HM, K1, HW, HFR⟩
        case round =>
          clear HO HS HM K1 HW HFR HT
          obtain ⟨r, cs, hr, rfl, HO, HS, HM, K1, HW, HFR⟩ := hrel
          by_cases hlt : r < rs.length
          · have HRF := Lib.hid (range_flat (fun n => gotR rs ts i n (appsR rs ts i j)) r)
            have HKEY := Lib.hid (Maps.keyOf_int_mk (P := Tryz.prog) (k := 3) Tryz.underlying3 (q := .i64) (a := (r : Int)) (WalkArith.wf_i64 (by omega)))
            obtain ⟨v, ps, hrun, hv⟩ := HM.out.own.lookup lawI Tryz.underlying187 (zeroS _) (show hdrE (.slice none 0 0) = some (hdrD (.slice none 0 0), []) from rfl) HKEY.out
            obtain rfl := hdr_inj (HM.out.rows r).ok (by rw [← HM.out.at_ r]; exact hv)
            obtain ⟨A5, cap5, e5, hcl5, _, _⟩ := (HM.out.rows r).form
            rw [e5] at hrun
            have cm := K1.out.cell 0
            have hrd := Reads.of_own (show wr.ownsRow w4.heap.size 137 1 (.slice A5 (bss r).length cap5) (bss r).length ((bss r).map ptrV) from by rw [← e5]; exact HM.out.rows r)
            have hcs : cs.length ≤ 2 * r + 1 := by
              rw [HS.out.1, List.length_append]
              have := got_all_len (rs := rs) (ts := ts) (i := i) (r := r) (l := appsR rs ts i j)
              have : (baseR ts i j).length ≤ 1 := by unfold baseR; split <;> simp
              omega
            have hbr : (bss r).length ≤ 2 := by rw [(HM.out.shs r).1]; exact got_len
            obtain ⟨A6, cap6, e6, hcl6, hcap6, _⟩ := HO.out.form
            subst e6
            have hown : World.ownsRow wr w.heap.size 137 1 (.slice A6 cs.length cap6) cs.length (cs.map ptrV) := HO.out
            have HSZ := Lib.hid HW.out.size
            clear hv e5
            go_wp2_with (at_builtin; refine wpList_append_any _ rfl (.tmp 49) (.tmp 52) 135 rfl w.heap.size 137 i0 (.pointer none) 1 8 Tryz.underlying135 hi hz0 hz1 hz2 rfl (by decide) _ _ _ rfl hown wr.heap.size A5 (bss r).length cap5 ((bss r).map ptrV) rfl hrd ptr_one ?c3a ?c4a ?c5a ?_)
            case c3a => unfold maxLen; omega
            case c4a => omega
            case c5a => exact HSZ.out
            intro v' w5 hown' hgrow hloc
            have M0 := Lib.hid (ptrs_app hown')
            have M1 := Lib.hid (HM.out.stay HO.out hgrow HFR.out)
            have hrow := fun r hr => (HO.out.row r hr).2.2
            have M2 := Lib.hid ((HS.out.grow hgrow hrow).append (M1.out.shs r))
            have M3 := Lib.hid (K1.out.stay hgrow hrow (by decide))
            have M4 := Lib.hid (show ∀ r b, (hd r).ownBlock = some b → v'.ownBlock ≠ some b from fun r b h1 => by
              rcases hloc with h | h
              · rw [h]; exact HFR.out r b h1
              · rw [h]
                intro h2
                have := ((HM.out.rows r).row b h1).2.1
                have := Option.some.inj h2
                omega)
            have M5 := Lib.hid (HW.out.grown hgrow HW.out.size (fun k hk => (HO.out.row k hk).1))
            rw [List.append_assoc, ← HRF.out] at M2
            clear hown hown' hgrow hloc hrow hrd hrun cm HO HS HM K1 HW HFR hcs hbr
            go_wp2_with fail
            go_roundw
            case rel => exact ⟨r + 1, _, by omega, by go_num, M0, M2, M1, M3, M5, M4⟩
            case measure => simp [intOf]; omega
          · obtain rfl : r = rs.length := by omega
            go_wp2_with fail
            go_ret
            exact ⟨_, _, rfl, HO.out, by rw [HQ.out]; exact HS.out, HW.out⟩
end Go.Proofs.YthpioplpfmlgcaaGreatDoor.Ch
