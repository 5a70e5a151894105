/- The map of the readings of each rule while the applications are gone through: the program's closure. -/
import Derived.Test.YtmhddlhlniajpaaTC
import Derived.Maps.OwnOps
import Derived.Maps.OwnSet
import Derived.Maps.Views
namespace Go.Proofs.Ytmhddlhlniajpaa
open Go.RowKit
/-- a slice's header as a closed datum -/
def hdrD : Value → DataW Unit
  | .slice (some a) n c => .agg [.lit (.int .i64 1), .lit (.int .i64 a.block), .lit (.int .i64 n), .lit (.int .i64 c)]
  | _ => .lit (.int .i64 0)
def hdrOk : Value → Bool
  | .slice none 0 0 => true
  | .slice (some ⟨_, 0, none⟩) _ _ => true
  | _ => false
def hdrE (v : Value) : Option (DataW Unit × List MemPlace) := if hdrOk v then some (hdrD v, []) else none
theorem hdr_inj {u v : Value} {ps : List MemPlace} (hu : hdrOk u = true) (h : hdrE v = some (hdrD u, ps)) : v = u := by
  unfold hdrE at h
  split at h
  · rename_i hv
    simp only [Option.some.injEq, Prod.mk.injEq] at h
    have h := h.1
    unfold hdrOk at hu hv
    split at hu
    · split at hv
      · rfl
      · simp [hdrD] at h
      · cases hv
    · split at hv
      · simp [hdrD] at h
      · simp only [hdrD, DataW.agg.injEq, List.cons.injEq, DataW.lit.injEq, Lit.int.injEq, true_and, and_true] at h
        obtain ⟨h1, h2, h3⟩ := h
        have e1 := Int.ofNat.inj h1
        have e2 := Int.ofNat.inj h2
        have e3 := Int.ofNat.inj h3
        subst e1 e2 e3
        rfl
      · cases hv
    · cases hu
  · cases h
theorem OwnP.ok {w : World} {B : Nat} {v : Value} {bs : List Nat} (h : OwnP w B v bs) : hdrOk v = true := by
  rcases h.2 with ⟨h1, _⟩ | ⟨g', cap', cur, h1, _⟩
  · rw [h1]; rfl
  · rw [h1]; rfl
theorem lawI : Maps.Keyed Try.prog 3 := Maps.int_keyed Try.underlying3
theorem zeroS (w : World) : (zeroValue 55).run Try.prog w = .ok (.slice none 0 0) w := by simp [Try.zeroValue55]
/-- the map: of each rule a slice of its own -/
structure MapS (w : World) (B bm : Nat) (rs : List Rul) (ts : List ByteArray) (i : Nat) (done : List App) (D : DataW Unit) (hd : Nat → Value) (bss : Nat → List Nat) : Prop where
  own : w.ownsMap Try.prog 3 hdrE bm done.length D
  at_ : ∀ r : Nat, D.atKey (.int .i64 r) (hdrD (.slice none 0 0)) = hdrD (hd r)
  rows : ∀ r, OwnP w B (hd r) (bss r)
  shs : ∀ r, Shs rs w (bss r) (gotR rs ts i r done)
  dis : ∀ r r', r ≠ r' → ∀ b, (hd r).ownBlock = some b → (hd r').ownBlock ≠ some b
theorem map_no_cells {w : World} {bm n : Nat} {D : DataW Unit} (h : w.ownsMap Try.prog 3 hdrE bm n D) {t : TypeId} {cs : Array Value} : ¬ Blk w bm t cs := by
  obtain ⟨es, clock, hb, _⟩ := h
  unfold Blk
  rw [hb]
  simp
theorem MapS.keep {w w' : World} {B bm : Nat} {rs : List Rul} {ts : List ByteArray} {i : Nat} {done : List App} {D : DataW Unit} {hd : Nat → Value} {bss : Nat → List Nat} (h : MapS w B bm rs ts i done D hd bss) (hb : Below w.heap.size w w') : MapS w' B bm rs ts i done D hd bss :=
  ⟨h.own.kept (row := none) ⟨hb.os, hb.tape, hb.output, hb.size, fun i hi _ => hb.block i hi⟩ (by simp), h.at_, fun r => (h.rows r).keep hb, fun r => (h.shs r).keep hb, h.dis⟩
theorem MapS.full {w : World} {B bm : Nat} {rs : List Rul} {ts : List ByteArray} {i : Nat} {done : List App} {D : DataW Unit} {hd : Nat → Value} {bss : Nat → List Nat} (h : MapS w B bm rs ts i done D hd bss) {a : App} (hf : ¬ (bss a.rule).length < 2) : MapS w B bm rs ts i (done ++ [a]) D hd bss := by
  refine ⟨h.own.mono (by simp), h.at_, h.rows, fun r => ?_, h.dis⟩
  rw [got_snoc]
  split
  · rename_i e
    subst e
    rw [got_full (by rw [← (h.shs a.rule).1]; exact hf)]
    exact h.shs _
  · exact h.shs r
/-- behind extend and the store -/
theorem MapS.put {w w1 w2 w0 : World} {bm : Nat} {rs : List Rul} {ts : List ByteArray} {i : Nat} {done : List App} {D : DataW Unit} {hd : Nat → Value} {bss : Nat → List Nat} (h : MapS w w0.heap.size bm rs ts i done D hd bss) {a : App} {v' : Value} {bs' : List Nat}
    (he : ExtS rs w0 w (hd a.rule) w1 v' bs' (gotR rs ts i a.rule done ++ addsR rs ts i a)) (hm : w2.ownsMap Try.prog 3 hdrE bm (done.length + 1) (D.put (.int .i64 a.rule) (hdrD v'))) (hg : w1.grownBy w2 (some bm)) (hm1 : ∀ t cs, ¬ Blk w1 bm t cs) :
    ∃ D' hd' bss', MapS w2 w0.heap.size bm rs ts i (done ++ [a]) D' hd' bss' := by
  have stay : ∀ g t cs, Blk w1 g t cs → Blk w2 g t cs := fun g t cs hb => hb.grown hg fun e => by
    obtain rfl := Option.some.inj e
    exact hm1 _ _ hb
  have row2 : ∀ v bs, OwnP w1 w0.heap.size v bs → OwnP w2 w0.heap.size v bs := fun v bs ho => by
    refine World.ownsRow.kept ho hg ?_
    cases hv : v.ownBlock with
    | none => exact .inl rfl
    | some b =>
      refine .inr fun e => ?_
      obtain rfl := Option.some.inj e
      obtain ⟨cs, hc⟩ := (ho.row _ hv).2.2
      exact hm1 _ _ hc
  have row1 : ∀ r, r ≠ a.rule → OwnP w1 w0.heap.size (hd r) (bss r) := fun r hr => by
    refine World.ownsRow.kept (h.rows r) he.grown ?_
    cases hv : (hd r).ownBlock with
    | none => exact .inl rfl
    | some b => exact .inr fun e => h.dis r a.rule hr b hv e.symm
  refine ⟨_, fun r => if r = a.rule then v' else hd r, fun r => if r = a.rule then bs' else bss r, by rw [List.length_append]; exact hm, fun r => ?_, fun r => ?_, fun r => ?_, fun r r' hne b hb => ?_⟩
  · show (D.put (.int .i64 a.rule) (hdrD v')).atKey _ _ = hdrD (if r = a.rule then v' else hd r)
    by_cases e : r = a.rule
    · rw [if_pos e, e]
      exact Maps.atKey_put_same (World.ownsMap.isMap h.own) (by trivial) _ _
    · rw [if_neg e, Maps.atKey_put_other (fun hh => e (by simp at hh; omega))]
      exact h.at_ r
  · show OwnP w2 _ (if r = a.rule then v' else hd r) (if r = a.rule then bs' else bss r)
    by_cases e : r = a.rule
    · rw [if_pos e, if_pos e]; exact row2 _ _ he.own
    · rw [if_neg e, if_neg e]; exact row2 _ _ (row1 r e)
  · show Shs rs w2 (if r = a.rule then bs' else bss r) _
    rw [got_snoc]
    by_cases e : r = a.rule
    · subst e
      rw [if_pos rfl, if_pos rfl]
      exact he.shs.map fun g cs hb => stay g _ cs hb
    · rw [if_neg e, if_neg (fun hh => e hh.symm)]
      exact ((h.shs r).grow he.grown fun r' hr' => ((h.rows a.rule).row r' hr').2.2).map fun g cs hb => stay g _ cs hb
  · have hlt : ∀ r b, (hd r).ownBlock = some b → b < w.heap.size := fun r b hb => ((h.rows r).row b hb).2.1
    show (if r' = a.rule then v' else hd r').ownBlock ≠ some b
    have hb : (if r = a.rule then v' else hd r).ownBlock = some b := hb
    by_cases e : r = a.rule
    · rw [if_pos e] at hb
      rw [if_neg (fun e' => hne (e.trans e'.symm))]
      rcases he.loc with h1 | ⟨b', h1, h2⟩
      · rw [h1] at hb
        exact h.dis a.rule r' (fun hh => hne (e.trans hh)) b hb
      · rw [h2] at hb
        obtain rfl := Option.some.inj hb
        intro hh
        have := hlt r' _ hh
        omega
    · rw [if_neg e] at hb
      by_cases e' : r' = a.rule
      · rw [if_pos e']
        rcases he.loc with h1 | ⟨b', h1, h2⟩
        · rw [h1]
          exact h.dis r a.rule e b hb
        · rw [h2]
          intro hh
          obtain rfl := Option.some.inj hh
          have := hlt r _ hb
          omega
      · rw [if_neg e']
        exact h.dis r r' hne b hb
/-- what the closure may lean on -/
structure CellS (w0 : World) (g gm gt gi bm : Nat) (rs : List Rul) (ts : List ByteArray) (i : Nat) (done : List App) (w : World) : Prop where
  vm : Blk w gm 108 #[.map (some bm)]
  vt : Blk w gt 53 #[ptrV g]
  vi : Blk w gi 3 #[.int .i64 i]
  below : Below w0.heap.size w0 w
  map : ∃ D hd bss, MapS w w0.heap.size bm rs ts i done D hd bss
  low : w0.heap.size ≤ bm
theorem CellS.keep {w0 : World} {g gm gt gi bm : Nat} {rs : List Rul} {ts : List ByteArray} {i : Nat} {done : List App} {w w' : World} (h : CellS w0 g gm gt gi bm rs ts i done w) (hb : Below w.heap.size w w') : CellS w0 g gm gt gi bm rs ts i done w' := by
  obtain ⟨h1, h2, h3, h4, ⟨D, hd, bss, h5⟩, h6⟩ := h
  exact ⟨_root_.Go.Proofs.Ytmhddlhlniajpaa.keep hb h1, _root_.Go.Proofs.Ytmhddlhlniajpaa.keep hb h2, _root_.Go.Proofs.Ytmhddlhlniajpaa.keep hb h3, h4.trans (hb.mono h4.size), ⟨D, hd, bss, h5.keep hb⟩, h6⟩
theorem CellS.put {w0 : World} {g gm gt gi bm : Nat} {rs : List Rul} {ts : List ByteArray} {i : Nat} {done : List App} {w w1 w2 : World} {D : DataW Unit} {hd : Nat → Value} {bss : Nat → List Nat} {a : App} {v' : Value} {bs' : List Nat}
    (h1 : Blk w gm 108 #[.map (some bm)]) (h2 : Blk w gt 53 #[ptrV g]) (h3 : Blk w gi 3 #[.int .i64 i]) (h6 : w0.heap.size ≤ bm) (hM : MapS w w0.heap.size bm rs ts i done D hd bss)
    (he : ExtS rs w0 w (hd a.rule) w1 v' bs' (gotR rs ts i a.rule done ++ addsR rs ts i a)) (hm : w2.ownsMap Try.prog 3 hdrE bm (done.length + 1) (D.put (.int .i64 a.rule) (hdrD v'))) (hg : w1.grownBy w2 (some bm)) :
    CellS w0 g gm gt gi bm rs ts i (done ++ [a]) w2 ∧ ∀ k cs, Blk w k 81 cs → Blk w2 k 81 cs := by
  have hrow : ∀ r, (hd a.rule).ownBlock = some r → ∃ cs, Blk w r 57 cs := fun r hr => ((hM.rows a.rule).row r hr).2.2
  have hm1 : w1.ownsMap Try.prog 3 hdrE bm done.length D := hM.own.kept he.grown fun e => by
    obtain ⟨cs, hc⟩ := hrow bm e.symm
    exact map_no_cells hM.own hc
  have both : ∀ k t cs, t ≠ 57 → Blk w k t cs → Blk w2 k t cs := fun k t cs ht hb => by
    have hb1 := hb.stay he.grown hrow ht
    exact hb1.grown hg fun e => by
      obtain rfl := Option.some.inj e
      exact map_no_cells hm1 hb1
  refine ⟨⟨both _ _ _ (by decide) h1, both _ _ _ (by decide) h2, both _ _ _ (by decide) h3, he.below.grown hg he.below.size (fun k hk => by cases hk; exact h6), hM.put he hm hg (fun t cs => map_no_cells hm1), h6⟩, fun k cs hb => both _ _ _ (by decide) hb⟩
/-- the world while the closure stores -/
def InvC (w0 : World) (g gm gt gi bm : Nat) (rs : List Rul) (ts : List ByteArray) (i : Nat) (done : List App) (a : App) (wa : World) (hd : Nat → Value) : List Bool → Value × List Nat → World → Prop
  | [false, _], _, wq => Below wa.heap.size wa wq
  | [true, false], gx, wq => ∃ wb, Below wa.heap.size wa wb ∧ ExtS rs w0 wb (hd a.rule) wq gx.1 gx.2 (gotR rs ts i a.rule done ++ addsR rs ts i a)
  | [true, true], _, wq => CellS w0 g gm gt gi bm rs ts i (done ++ [a]) wq ∧ ∀ k cs, Blk wa k 81 cs → Blk wq k 81 cs
  | _, _, _ => False
theorem in_len {rs : List Rul} {ts : List ByteArray} {i j k : Nat} : (inA rs ts i j k).length ≤ 1 := by
  unfold inA
  split
  · split <;> simp
  · simp
theorem jux_len {rs : List Rul} {i j k : Nat} : (juxA rs i j k).length ≤ 1 := by
  unfold juxA
  split <;> simp
theorem mid_len {rs : List Rul} {ts : List ByteArray} {i j k : Nat} : (midA rs ts i j k).length ≤ 2 := by
  unfold midA
  rw [List.length_append]
  have h1 := in_len (rs := rs) (ts := ts) (i := i) (j := j) (k := k)
  have h2 := jux_len (rs := rs) (i := i) (j := j) (k := k)
  omega
theorem apps_len {rs : List Rul} {ts : List ByteArray} {i j : Nat} : (appsR rs ts i j).length ≤ 2 + 2 * (j - (i + 1)) := by
  unfold appsR
  rw [List.length_append, List.length_append]
  have h1 : (preA rs ts i j).length ≤ 1 := by
    unfold preA
    split
    · split <;> simp
    · simp
  have h2 : (postA rs ts i j).length ≤ 1 := by
    unfold postA
    split
    · split <;> simp
    · simp
  have h3 := flat_le (f := midA rs ts i j) (b := 2) (l := List.range' (i + 1) (j - (i + 1))) fun k _ => mid_len
  rw [List.length_range'] at h3
  omega
/-- the tokens that an application speaks of -/
theorem app_in {rs : List Rul} {ts : List ByteArray} {i j : Nat} (hij : i < j) {a : App} (h : a ∈ appsR rs ts i j) : a.rule < rs.length ∧ i ≤ a.frm ∧ a.frm < a.left ∧ a.left ≤ j ∧ a.left - a.frm < j - i ∧ (a.kids = 1 ∨ (a.kids = 2 ∧ i < a.right ∧ a.right < a.to ∧ a.to = j)) := by
  unfold appsR at h
  rw [List.mem_append, List.mem_append, List.mem_flatMap] at h
  have fr : ∀ {kind : Int} {s : List UInt8} {r : Nat}, findR rs kind s = some r → r < rs.length := fun h => by
    obtain ⟨x, hx, _⟩ := find_some h
    exact (List.getElem?_eq_some_iff.1 hx).1
  rcases h with (h | h) | ⟨k, hk, h⟩
  · unfold preA at h
    split at h
    · split at h
      · rw [List.mem_singleton] at h
        subst h
        exact ⟨fr ‹_›, by dsimp only; omega, by dsimp only; omega, by dsimp only; omega, by dsimp only; omega, .inl rfl⟩
      · cases h
    · cases h
  · unfold postA at h
    split at h
    · split at h
      · rw [List.mem_singleton] at h
        subst h
        exact ⟨fr ‹_›, by dsimp only; omega, by dsimp only; omega, by dsimp only; omega, by dsimp only; omega, .inl rfl⟩
      · cases h
    · cases h
  · have hkm := mem_range1 hk
    unfold midA at h
    rw [List.mem_append] at h
    rcases h with h | h
    · unfold inA at h
      split at h
      · split at h
        · rw [List.mem_singleton] at h
          subst h
          exact ⟨fr ‹_›, by dsimp only; omega, by dsimp only; omega, by dsimp only; omega, by dsimp only; omega, .inr ⟨rfl, by dsimp only; omega, by dsimp only; omega, rfl⟩⟩
        · cases h
      · cases h
    · unfold juxA at h
      split at h
      · rw [List.mem_singleton] at h
        subst h
        exact ⟨fr ‹_›, by dsimp only; omega, by dsimp only; omega, by dsimp only; omega, by dsimp only; omega, .inr ⟨rfl, by dsimp only; omega, by dsimp only; omega, rfl⟩⟩
      · cases h
theorem extend_any (g : Nat) (F : Fin) (rs : List Rul) (ts : List ByteArray) (gc : Nat) (rows : Nat → Nat) (fill : Nat → Nat → Bool) (a : App) (i j : Nat) (l : Value) (bs : List Nat) (xs : List Rd) (w0 w : World) (hT : TabAt w0 g F rs ts gc rows fill) (hb0 : Below w0.heap.size w0 w) (ho : OwnP w w0.heap.size l bs) (hs : Shs rs w bs xs) (hx : xs.length ≤ 2) (hij : i < j) (hj : j ≤ ts.length) (ha : a ∈ appsR rs ts i j) (hf : ∀ p q, i ≤ p → p < q → q ≤ j → q - p < j - i → fill p q = true) (hn : rs.length ≤ 1000000) :
    Calls Try.prog 74 #[ptrV g, l, .int .i64 i, .agg a.c] w (ExtP rs w0 l (xs ++ addsR rs ts i a) w) := by
  obtain ⟨r, frm, left, right, t2, kids⟩ := a
  obtain ⟨h1, h2, h3, h4, h5, h6⟩ := app_in hij ha
  dsimp only at h1 h2 h3 h4 h5 h6
  rcases h6 with rfl | ⟨rfl, h7, h8, h9⟩
  · exact extend_one g F rs ts gc rows fill r frm left right t2 i l bs xs w0 w hT hb0 ho hs hx h1 h3 (by omega) (hf _ _ h2 h3 h4 h5) hn
  · exact extend_two g F rs ts gc rows fill r frm left right t2 i l bs xs w0 w hT hb0 ho hs hx h1 h3 (by omega) (hf _ _ h2 h3 h4 h5) h8 (by omega) (hf _ _ (by omega) h8 (by omega) (by omega)) hn
theorem InvC.keeps {w0 : World} {g gm gt gi bm : Nat} {rs : List Rul} {ts : List ByteArray} {i : Nat} {done : List App} {a : App} {wa : World} {D : DataW Unit} {hd : Nat → Value} {bss : Nat → List Nat} {b10 b11 : Bool} {gx : Value × List Nat} {wq : World} (h : InvC w0 g gm gt gi bm rs ts i done a wa hd [b10, b11] gx wq) (hM : MapS wa w0.heap.size bm rs ts i done D hd bss) (h11 : b11 = false) {k : Nat} {t : TypeId} {cs : Array Value} (hk : Blk wa k t cs) (ht : t ≠ 57) (o : Nat) : wq.cell? ⟨k, o, none⟩ = cs[o]? := by
  subst h11
  cases b10
  · exact (_root_.Go.Proofs.Ytmhddlhlniajpaa.keep h hk).cell o
  · obtain ⟨wb, hb, he⟩ := h
    exact ((_root_.Go.Proofs.Ytmhddlhlniajpaa.keep hb hk).stay he.grown (fun r hr => (((hM.keep hb).rows a.rule).row r hr).2.2) ht).cell o
set_option maxRecDepth 100000 in
set_option maxHeartbeats 4000000 in
theorem visit_cell (g : Nat) (F : Fin) (rs : List Rul) (ts : List ByteArray) (gc : Nat) (rows : Nat → Nat) (fill : Nat → Nat → Bool) (i j gm gt gi bm : Nat) (w0 : World) (hT : TabAt w0 g F rs ts gc rows fill) (hij : i < j) (hj : j ≤ ts.length) (hf : ∀ p q, i ≤ p → p < q → q ≤ j → q - p < j - i → fill p q = true) (hn : rs.length ≤ 1000000) (hm : ts.length ≤ 1000000) :
    Visits 73 #[ptrV gm, ptrV gt, ptrV gi] rs ts i j (CellS w0 g gm gt gi bm rs ts i) := by
  intro done a m w hA hC
  have HT := Lib.hid hT
  have HFI := Lib.hid hf
  have HA := Lib.hid (show a ∈ appsR rs ts i j by rw [hA]; simp)
  have hr := (app_in hij HA.out).1
  have hdl : done.length ≤ 2000002 := by
    have h1 := apps_len (rs := rs) (ts := ts) (i := i) (j := j)
    rw [hA, List.length_append] at h1
    omega
  have HDN := Lib.hid (show done.length < maxLen by unfold maxLen; omega)
  clear hA hT hf hdl
  obtain ⟨r, frm, left, right, t2, kids⟩ := a
  dsimp only at hr
  have HKEY := Lib.hid (Maps.keyOf_int_mk (P := Try.prog) (k := 3) Try.underlying3 (q := .i64) (a := (r : Int)) (WalkArith.wf_i64 (by omega)))
  have HBA := Lib.hid (bel_alloc w (.cells #[.int .i64 r, .int .i64 frm, .int .i64 left, .int .i64 right, .int .i64 t2, .int .i64 kids] 111))
  have K0 := Lib.hid (Blk.new w 111 #[.int .i64 r, .int .i64 frm, .int .i64 left, .int .i64 right, .int .i64 t2, .int .i64 kids])
  obtain ⟨k1, k2, k3, hb, ⟨D, hd, bss, hM⟩, hlow⟩ := hC.keep HBA.out
  have K1 := Lib.hid k1
  have K2 := Lib.hid k2
  have K3 := Lib.hid k3
  have HB := Lib.hid hb
  have HM := Lib.hid hM
  have HLOW := Lib.hid hlow
  clear hb hM hlow k1 k2 k3 hC
  obtain ⟨A5, cap5, e5, hcl5, _, _⟩ := (HM.out.rows r).form
  obtain ⟨v, ps, hrun, hv⟩ := HM.out.own.lookup lawI Try.underlying108 (zeroS _) (show hdrE (.slice none 0 0) = some (hdrD (.slice none 0 0), []) from rfl) HKEY.out
  obtain rfl := hdr_inj (HM.out.rows r).ok (by rw [← HM.out.at_ r]; exact hv)
  rw [e5] at hrun
  clear hv
  have c1 := K1.out.cell 0
  rw [show (#[Value.agg (App.c ⟨r, frm, left, right, t2, kids⟩)] ++ #[ptrV gm, ptrV gt, ptrV gi] : Array Value) = #[.agg #[.int .i64 r, .int .i64 frm, .int .i64 left, .int .i64 right, .int .i64 t2, .int .i64 kids], ptrV gm, ptrV gt, ptrV gi] from rfl]
  by_cases hl2 : (bss r).length < 2
  · have q1 : ((bss r).length : Int) < 2 := by omega
    go_enter Try.func73, Try.ntmps73
    go_upto_region 2 with (fail)
    clear hrun c1 e5 q1
    generalize w.alloc (.cells _ 111) = w1 at *
    refine region_ghost (X := Value × List Nat) (by kernel_rfl) _ (fun gx => [.map (some bm), .pointer (some ⟨w.heap.size, 0, none⟩), .int .i64 r, .pointer (some ⟨g, 0, none⟩), .map (some bm), .pointer (some ⟨w.heap.size, 0, none⟩), .int .i64 r, hd r, .int .i64 i, .agg #[.int .i64 r, .int .i64 frm, .int .i64 left, .int .i64 right, .int .i64 t2, .int .i64 kids], gx.1, undef]) [true, true, true, true, true, true, true, true, true, true, true, true] [10, 11] (InvC w0 g gm gt gi bm rs ts i done ⟨r, frm, left, right, t2, kids⟩ w1 hd) (.nilFunc, []) (by kernel_rfl) (fun gx => by simp [fin, finOn, dstAt, List.range, List.range.loop, Act.put]; rfl) (fun _ => by kernel_rfl) (by kernel_rfl) (below_drew (Below.refl _ _)) ?_ ?_
    · refine ⟨fun L gx wq hL hb ha hI => ?_, fun L gx wq hL hb ha hI => ?_, fun L gx wq hL hb ha hI => ?_, fun L gx wq hL hb ha hI => ?_, fun L gx wq hL hb ha hI => ?_, fun L gx wq hL hb ha hI => ?_, fun L gx wq hL hb ha hI => ?_, fun L gx wq hL hb ha hI => ?_, fun L gx wq hL hb ha hI => ?_, fun L gx wq hL hb ha hI => ?_, fun L gx wq hL hb ha hI => ?_, fun L gx wq hL hb ha hI => ?_, trivial⟩
      · have cJ := InvC.keeps hI HM.out (ha 11 (by kernel_rfl)) K1.out (by decide) 0
        exact Gives.plain (v := .map (some bm)) (w' := wq) (by simp [go_sem, cJ]) rfl hI
      · exact Gives.plain (v := .pointer (some ⟨w.heap.size, 0, none⟩)) (w' := wq) (by simp [go_sem]) rfl hI
      · have cJ := InvC.keeps hI HM.out (ha 11 (by kernel_rfl)) K0.out (by decide) 0
        exact Gives.plain (v := .int .i64 r) (w' := wq) (by simp [go_sem, cJ]) rfl hI
      · have cJ := InvC.keeps hI HM.out (ha 11 (by kernel_rfl)) K2.out (by decide) 0
        exact Gives.plain (v := .pointer (some ⟨g, 0, none⟩)) (w' := wq) (by simp [go_sem, cJ]) rfl hI
      · have cJ := InvC.keeps hI HM.out (ha 11 (by kernel_rfl)) K1.out (by decide) 0
        exact Gives.plain (v := .map (some bm)) (w' := wq) (by simp [go_sem, cJ]) rfl hI
      · exact Gives.plain (v := .pointer (some ⟨w.heap.size, 0, none⟩)) (w' := wq) (by simp [go_sem]) rfl hI
      · have cJ := InvC.keeps hI HM.out (ha 11 (by kernel_rfl)) K0.out (by decide) 0
        exact Gives.plain (v := .int .i64 r) (w' := wq) (by simp [go_sem, cJ]) rfl hI
      · have e10 : L 10 = false := ha 10 (by kernel_rfl)
        have hI9 := hI
        simp only [List.map, e10] at hI9
        obtain ⟨v, ps, hrun, hv⟩ := (HM.out.keep hI9).own.lookup lawI Try.underlying108 (zeroS wq) (show hdrE (.slice none 0 0) = some (hdrD (.slice none 0 0), []) from rfl) HKEY.out
        obtain rfl := hdr_inj (HM.out.rows r).ok (by rw [← HM.out.at_ r]; exact hv)
        exact Gives.plain (v := hd r) (w' := wq) (by simp [go_sem, hrun]) rfl hI
      · have cJ := InvC.keeps hI HM.out (ha 11 (by kernel_rfl)) K3.out (by decide) 0
        exact Gives.plain (v := .int .i64 i) (w' := wq) (by simp [go_sem, cJ]) rfl hI
      · have cJ := fun k => InvC.keeps hI HM.out (ha 11 (by kernel_rfl)) K0.out (by decide) k
        exact Gives.plain (v := .agg #[.int .i64 r, .int .i64 frm, .int .i64 left, .int .i64 right, .int .i64 t2, .int .i64 kids]) (w' := wq) (by simp [go_sem, cJ]) rfl hI
      · have e10 : L 10 = false := hL
        have e11 : L 11 = false := ha 11 (by kernel_rfl)
        simp only [List.map, e10, e11] at hI ⊢
        refine Gives.call (f := 74) (args := #[.pointer (some ⟨g, 0, none⟩), hd r, .int .i64 i, .agg #[.int .i64 r, .int .i64 frm, .int .i64 left, .int .i64 right, .int .i64 t2, .int .i64 kids]]) (w' := wq) (by kernel_rfl) ((extend_any g F rs ts gc rows fill ⟨r, frm, left, right, t2, kids⟩ i j (hd r) (bss r) (gotR rs ts i r done) w0 wq HT.out (HB.out.trans (Below.mono hI HB.out.size)) ((HM.out.rows r).keep hI) ((HM.out.shs r).keep hI) got_len hij hj HA.out HFI.out hn).mono ?_)
        rintro e wa ⟨v', bs', rfl, he⟩
        exact ⟨_, rfl, (v', bs'), rfl, (KeepsV.of_same ⟨.inr (.inr rfl), .inr (.inr rfl), .inr (.inr rfl), .inr (.inr rfl), .inr (.inr rfl), .inr (.inr rfl), .inr (.inr rfl), .inr (.inr rfl), .inr (.inr rfl), .inr (.inr rfl), .inl rfl, .inr (.inr rfl), trivial⟩), wq, hI, he⟩
      · have e10 : L 10 = true := hb 10 (by kernel_rfl)
        have e11 : L 11 = false := hL
        simp only [List.map, e10, e11] at hI ⊢
        obtain ⟨wb, hbb, he⟩ := hI
        have HMb := HM.out.keep hbb
        have hm1 := HMb.own.kept he.grown (fun e => by
          obtain ⟨cs, hc⟩ := ((HMb.rows r).row bm e.symm).2.2
          exact map_no_cells HMb.own hc)
        obtain ⟨w2, hrun, hm2, hg2⟩ := hm1.update lawI Try.underlying108 HDN.out HKEY.out (show hdrE gx.1 = some (hdrD gx.1, []) by unfold hdrE; rw [he.own.ok]; rfl)
        have hfin := CellS.put (a := ⟨r, frm, left, right, t2, kids⟩) (keep hbb K1.out) (keep hbb K2.out) (keep hbb K3.out) HLOW.out HMb he hm2 hg2
        exact Gives.skip (w' := w2) (by simp [go_sem, hrun]) ⟨gx, rfl, KeepsV.same, hfin.1, fun k cs hk => hfin.2 k cs (keep hbb hk)⟩
    · intro gx wq hI
      obtain ⟨hc, hk⟩ := hI
      go_wp2_with fail
      go_end0
      exact ⟨rfl, hc, fun k cs hb => hk k cs (keep HBA.out hb)⟩
  · have hf := HM.out.full (a := ⟨r, frm, left, right, t2, kids⟩) hl2
    have HF := Lib.hid hf
    have q1 : ¬ ((bss r).length : Int) < 2 := by omega
    clear hf
    go_enter Try.func73, Try.ntmps73
    go_wp2_with fail
    go_end0
    exact ⟨rfl, ⟨K1.out, K2.out, K3.out, HB.out, ⟨_, _, _, HF.out⟩, HLOW.out⟩, fun k cs hb => keep HBA.out hb⟩
end Go.Proofs.Ytmhddlhlniajpaa
