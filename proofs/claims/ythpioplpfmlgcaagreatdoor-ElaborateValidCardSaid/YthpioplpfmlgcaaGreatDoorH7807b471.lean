/- The first readings of an application, appended to those of the same rule. -/
import Derived.Test.YthpioplpfmlgcaaGreatDoorHefdb52b4
namespace Go.Proofs.YthpioplpfmlgcaaGreatDoor.Ch
open Go.RowKit
theorem OwnP.row {w : World} {B : Nat} {v : Value} {bs : List Nat} (h : OwnP w B v bs) : ∀ r, v.ownBlock = some r → B ≤ r ∧ r < w.heap.size ∧ ∃ cs, Blk w r 137 cs := by
  intro r hr
  refine ⟨(World.ownsRow.lt h r hr).1, (World.ownsRow.lt h r hr).2, ?_⟩
  rcases h.2 with ⟨h1, _⟩ | ⟨g', cap', cur, h1, _, h2, _⟩
  · rw [h1] at hr; cases hr
  · rw [h1] at hr
    obtain rfl : g' = r := Option.some.inj hr
    exact ⟨_, h2⟩
theorem Shs.grow {rs : List Rul} {w w' : World} {bs : List Nat} {xs : List Rd} {row : Option Nat} (h : Shs rs w bs xs) (hg : w.grownBy w' row) (hr : ∀ r, row = some r → ∃ cs, Blk w r 137 cs) : Shs rs w' bs xs :=
  h.map fun g cs' hb => hb.grown hg fun e => by
    obtain ⟨cs, h1⟩ := hr g e.symm
    exact absurd (blk_type h1 hb) (by decide)
theorem _root_.Go.Proofs.YthpioplpfmlgcaaGreatDoor.Blk.stay {w w' : World} {g : Nat} {t : TypeId} {cs : Array Value} {row : Option Nat} (h : Blk w g t cs) (hg : w.grownBy w' row) (hr : ∀ r, row = some r → ∃ cs, Blk w r 137 cs) (ht : t ≠ 137) : Blk w' g t cs :=
  h.grown hg fun e => by
    obtain ⟨cs, h1⟩ := hr g e.symm
    exact ht (blk_type h h1)
theorem take2_less {α : Type} {L : List α} {z : α} (h : (L.take 2).length < 2) : (L ++ [z]).take 2 = L.take 2 ++ [z] := by
  rw [List.length_take] at h
  rw [List.take_append, List.take_of_length_le (l := [z]) (by simp; omega)]
theorem take2_full {α : Type} {L : List α} {z : α} (h : ¬ (L.take 2).length < 2) : (L ++ [z]).take 2 = L.take 2 := by
  rw [List.length_take] at h
  rw [List.take_append, show 2 - L.length = 0 by omega, List.take_zero, List.append_nil]
/-- the world while readings are appended -/
structure ExtS (rs : List Rul) (w0 w : World) (l : Value) (wr : World) (l' : Value) (bs : List Nat) (L : List Rd) : Prop where
  own : OwnP wr w0.heap.size l' bs
  shs : Shs rs wr bs (L.take 2)
  below : Below w0.heap.size w0 wr
  grown : w.grownBy wr l.ownBlock
  loc : l'.ownBlock = l.ownBlock ∨ ∃ b, w.heap.size ≤ b ∧ l'.ownBlock = some b
section
variable {rs : List Rul} {w0 w : World} {l : Value} {wr : World} {l' : Value} {bs : List Nat} {L : List Rd}
theorem grown_below {w wr w' : World} {row : Option Nat} (h : w.grownBy wr row) (hb : Below wr.heap.size wr w') : w.grownBy w' row :=
  ⟨hb.os.trans h.os, hb.tape.trans h.tape, hb.output.trans h.output, Nat.le_trans h.size hb.size, fun i hi hne => (hb.block i (Nat.lt_of_lt_of_le hi h.size)).trans (h.block i hi hne)⟩
theorem ExtS.keep {w' : World} (h : ExtS rs w0 w l wr l' bs L) (hb : Below wr.heap.size wr w') : ExtS rs w0 w l w' l' bs L :=
  ⟨h.own.keep hb, h.shs.keep hb, h.below.trans (hb.mono h.below.size), grown_below h.grown hb, h.loc⟩
theorem ExtS.len (h : ExtS rs w0 w l wr l' bs L) : bs.length = (L.take 2).length := h.shs.1
theorem ExtS.push {w2 : World} {v' : Value} {b : Nat} {z : Rd} (h : ExtS rs w0 w l wr l' bs L) (hlt : bs.length < 2) (hz : ShAt rs wr b z) (ho : OwnP w2 w0.heap.size v' (bs ++ [b])) (hg : wr.grownBy w2 l'.ownBlock) (hl : v'.ownBlock = l'.ownBlock ∨ v'.ownBlock = some wr.heap.size) : ExtS rs w0 w l w2 v' (bs ++ [b]) (L ++ [z]) := by
  have hrow := h.own.row
  refine ⟨ho, ?_, h.below.grown hg h.below.size (fun k hk => (hrow k hk).1), ?_, ?_⟩
  · rw [take2_less (by rw [← h.len]; exact hlt)]
    exact (h.shs.snoc hz).grow hg fun r hr => (hrow r hr).2.2
  · refine ⟨hg.os.trans h.grown.os, hg.tape.trans h.grown.tape, hg.output.trans h.grown.output, Nat.le_trans h.grown.size hg.size, fun i hi hne => (hg.block i (Nat.lt_of_lt_of_le hi h.grown.size) fun e => ?_).trans (h.grown.block i hi hne)⟩
    rcases h.loc with h1 | ⟨b', h1, h2⟩
    · exact hne (e.trans h1)
    · rw [h2] at e
      obtain rfl := Option.some.inj e
      omega
  · rcases hl with hl | hl
    · rw [hl]; exact h.loc
    · exact .inr ⟨_, h.grown.size, hl⟩
theorem ExtS.full {z : Rd} (h : ExtS rs w0 w l wr l' bs L) (hge : ¬ bs.length < 2) : ExtS rs w0 w l wr l' bs (L ++ [z]) :=
  ⟨h.own, by rw [take2_full (by rw [← h.len]; exact hge)]; exact h.shs, h.below, h.grown, h.loc⟩
end
/-- a slice of pointers that is not the one that is appended to -/
def SideP (rs : List Rul) (wr : World) (A : Option Addr) (bs : List Nat) (xs : List Rd) (l' : Value) : Prop := PtrsO wr A bs ∧ Shs rs wr bs xs ∧ ∀ g : Nat, A = some ⟨g, 0, none⟩ → g < wr.heap.size ∧ l'.ownBlock ≠ some g
theorem SideP.keep {rs : List Rul} {wr w' : World} {A : Option Addr} {bs : List Nat} {xs : List Rd} {l' : Value} (h : SideP rs wr A bs xs l') (hb : Below wr.heap.size wr w') : SideP rs w' A bs xs l' := ⟨h.1.keep hb, h.2.1.keep hb, fun g hg => ⟨Nat.lt_of_lt_of_le (h.2.2 g hg).1 hb.size, (h.2.2 g hg).2⟩⟩
theorem SideP.push {rs : List Rul} {wr w2 : World} {A : Option Addr} {bs : List Nat} {xs : List Rd} {l' v' : Value} {B : Nat} {cs : List Nat} (h : SideP rs wr A bs xs l') (ho : OwnP wr B l' cs) (hg : wr.grownBy w2 l'.ownBlock) (hl : v'.ownBlock = l'.ownBlock ∨ v'.ownBlock = some wr.heap.size) : SideP rs w2 A bs xs v' := by
  refine ⟨fun j b hj => ?_, h.2.1.grow hg fun r hr => (ho.row r hr).2.2, fun g hA => ?_⟩
  · obtain ⟨g, h1, ⟨cs', h2⟩, h3⟩ := h.1 j b hj
    have hne : some g ≠ l'.ownBlock := fun e => (h.2.2 g h1).2 e.symm
    have h4 := h2.grown hg hne
    refine ⟨g, h1, ⟨cs', h4⟩, ?_⟩
    rw [h4.cell, ← h2.cell]
    exact h3
  · have h5 := h.2.2 g hA
    refine ⟨Nat.lt_of_lt_of_le h5.1 hg.size, ?_⟩
    rcases hl with hl | hl
    · rw [hl]; exact h5.2
    · rw [hl]; intro e; have := Option.some.inj e; omega
theorem SideP.of_own {rs : List Rul} {wr : World} {A : Option Addr} {n cap B : Nat} {bs : List Nat} {xs : List Rd} {l' : Value} (ho : OwnP wr B (.slice A n cap) bs) (hs : Shs rs wr bs xs) (hP : PtrsO wr A bs) (hl : ∀ b, l'.ownBlock = some b → b < B) : SideP rs wr A bs xs l' := by
  refine ⟨hP, hs, fun g hA => ?_⟩
  subst hA
  have h := World.ownsRow.lt ho g rfl
  exact ⟨h.2, fun e => by have := hl g e; omega⟩
def ExtP (rs : List Rul) (w0 : World) (l : Value) (L : List Rd) (w : World) (e : Ending) (w' : World) : Prop := ∃ v' bs, e = .returned v' ∧ ExtS rs w0 w l w' v' bs L
theorem solo_snoc {r a : Int} {l : List Rd} {k : Nat} {x : Rd} (hx : l[k]? = some x) : soloR r a (l.take (k + 1)) = soloR r a (l.take k) ++ [.mk r a [x]] := by
  unfold soloR
  rw [List.take_add_one, hx, List.map_append]
  rfl
theorem pairs_snoc {r a : Int} {l m : List Rd} {k : Nat} {x : Rd} (hx : l[k]? = some x) : pairsR r a (l.take (k + 1)) m = pairsR r a (l.take k) m ++ m.map fun y => .mk r a [x, y] := by
  unfold pairsR
  rw [List.take_add_one, hx, List.flatMap_append]
  simp
theorem mapk_snoc {r a : Int} {m : List Rd} {x y : Rd} {k : Nat} (hy : m[k]? = some y) : ((m.take (k + 1)).map fun y => Rd.mk r a [x, y]) = ((m.take k).map fun y => Rd.mk r a [x, y]) ++ [.mk r a [x, y]] := by
  rw [List.take_add_one, hy, List.map_append]
  rfl
set_option maxRecDepth 100000 in
set_option maxHeartbeats 4000000 in
theorem extend_one (g : Nat) (F : Fin) (rs : List Rul) (ts : List ByteArray) (gc : Nat) (rows : Nat → Nat) (fill : Nat → Nat → Bool) (r frm left right t2 at_ : Nat) (l : Value) (bs : List Nat) (xs : List Rd) (w0 w : World) (hT : TabAt w0 g F rs ts gc rows fill) (hb0 : Below w0.heap.size w0 w) (ho : OwnP w w0.heap.size l bs) (hs : Shs rs w bs xs) (hx : xs.length ≤ 2) (hr : r < rs.length) (h1 : frm < left) (h2 : left ≤ ts.length) (h3 : fill frm left = true) (hn : rs.length ≤ 1000000) :
    Calls Tryz.prog 147 #[ptrV g, l, .int .i64 at_, .agg #[.int .i64 r, .int .i64 frm, .int .i64 left, .int .i64 right, .int .i64 t2, .int .i64 1]] w (ExtP rs w0 l (xs ++ addsR rs ts at_ ⟨r, frm, left, right, t2, 1⟩) w) := by
  obtain ⟨i0, hi, hz0, hz1, hz2⟩ := info_parts info_ptr
  obtain ⟨R, cR, T, cT, I, cI, P, cP, Q, cQ⟩ := F
  obtain ⟨ad, rfl⟩ : ∃ ad, R = some ad := by
    obtain ⟨_, ad, hA, _⟩ := hT.fin.rules r rs[r] (List.getElem?_eq_getElem hr)
    exact ⟨ad, hA⟩
  have HR := Lib.hid hr
  have hba := bel_alloc w (.cells #[.int .i64 r, .int .i64 frm, .int .i64 left, .int .i64 right, .int .i64 t2, .int .i64 1] 190)
  have HT0 := Lib.hid hT
  have HT := Lib.hid (hT.keep (hb0.trans (hba.mono hb0.size)))
  have K0 := Lib.hid (Blk.new w 190 #[.int .i64 r, .int .i64 frm, .int .i64 left, .int .i64 right, .int .i64 t2, .int .i64 1])
  have HE := Lib.hid (show ExtS rs w0 w l (w.alloc (.cells #[.int .i64 r, .int .i64 frm, .int .i64 left, .int .i64 right, .int .i64 t2, .int .i64 1] 190)) l bs xs from ExtS.keep ⟨ho, by rw [List.take_of_length_le hx]; exact hs, hb0, World.grownBy.refl w _, .inl rfl⟩ hba)
  clear hT hb0 ho hs hx hba hr
  go_enter Tryz.func147, Tryz.ntmps147
  go_upto_region 1 with (fail)
  generalize w.alloc (.cells _ 190) = w1 at *
  refine region_list (by kernel_rfl) _ [.pointer (some ⟨g, 0, none⟩), .pointer (some ⟨g, 0, none⟩), .pointer (some ⟨g, 0, none⟩), .agg #[.slice (some ad) rs.length cR, .slice T ts.length cT, .slice I ts.length cI, .slice P ts.length cP, .slice Q ts.length cQ, .int .i64 (findI rs 4 [])], .agg #[.int .i64 r, .int .i64 frm, .int .i64 left, .int .i64 right, .int .i64 t2, .int .i64 1], .tuple #[.int .i64 (lowR rs r), .int .i64 (highR rs r)], .tuple #[.int .i64 (lowR rs r), .int .i64 (highR rs r)], .int .i64 (lowR rs r), .int .i64 (highR rs r), .int .i64 (lowR rs r), .int .i64 (highR rs r)] [true, true, true, true, true, true, true, true, true, true, true] (fun wq => Hid (Blk wq w.heap.size 190 #[.int .i64 r, .int .i64 frm, .int .i64 left, .int .i64 right, .int .i64 t2, .int .i64 1]) ∧ Hid (ExtS rs w0 w l wq l bs xs) ∧ TabAt wq g ⟨some ad, cR, T, cT, I, cI, P, cP, Q, cQ⟩ rs ts gc rows fill) (by kernel_rfl) (by simp [fin, finOn, dstAt, List.range, List.range.loop, Act.put]; rfl) (by kernel_rfl) ⟨K0.out.drew, HE.out.keep (below_drew (Below.refl _ _)), HT.out.drew⟩ ?_ ?_
  · refine ⟨fun wq hI => ?_, fun wq hI => ?_, fun wq hI => ?_, fun wq hI => ?_, fun wq hI => ?_, fun wq hI => ?_, fun wq hI => ?_, fun wq hI => ?_, fun wq hI => ?_, fun wq hI => ?_, fun wq hI => ?_, trivial⟩
    · exact Gives.value (v := .pointer (some ⟨g, 0, none⟩)) (w' := wq) (by kernel_rfl) ⟨rfl, hI⟩
    · exact Gives.value (v := .pointer (some ⟨g, 0, none⟩)) (w' := wq) (by simp [go_sem]) ⟨rfl, hI⟩
    · exact Gives.value (v := .pointer (some ⟨g, 0, none⟩)) (w' := wq) (by simp [go_sem]) ⟨rfl, hI⟩
    · have cJ := fun i => (hI.2.2.blk.cell i)
      exact Gives.value (v := .agg #[.slice (some ad) rs.length cR, .slice T ts.length cT, .slice I ts.length cI, .slice P ts.length cP, .slice Q ts.length cQ, .int .i64 (findI rs 4 [])]) (w' := wq) (by simp [go_sem, cJ]) ⟨rfl, hI⟩
    · have cA := fun i => hI.1.out.cell i
      exact Gives.value (v := .agg #[.int .i64 r, .int .i64 frm, .int .i64 left, .int .i64 right, .int .i64 t2, .int .i64 1]) (w' := wq) (by simp [go_sem, cA]) ⟨rfl, hI⟩
    · refine Gives.call (f := 157) (args := #[.agg #[.slice (some ad) rs.length cR, .slice T ts.length cT, .slice I ts.length cI, .slice P ts.length cP, .slice Q ts.length cQ, .int .i64 (findI rs 4 [])], .agg #[.int .i64 r, .int .i64 frm, .int .i64 left, .int .i64 right, .int .i64 t2, .int .i64 1]]) (w' := wq) (by kernel_rfl) ((least_any ⟨some ad, cR, T, cT, I, cI, P, cP, Q, cQ⟩ rs ts (findI rs 4 []) ⟨r, frm, left, right, t2, 1⟩ wq hI.2.2.fin HR.out).mono ?_)
      rintro e wa ⟨rfl, hb5⟩
      exact ⟨_, rfl, rfl, keep hb5 hI.1.out, hI.2.1.out.keep hb5, hI.2.2.keep hb5⟩
    · exact Gives.value (v := .tuple #[.int .i64 (lowR rs r), .int .i64 (highR rs r)]) (w' := wq) (by kernel_rfl) ⟨rfl, hI⟩
    · exact Gives.value (v := .int .i64 (lowR rs r)) (w' := wq) (by simp [go_sem]) ⟨rfl, hI⟩
    · exact Gives.value (v := .int .i64 (highR rs r)) (w' := wq) (by simp [go_sem]) ⟨rfl, hI⟩
    · exact Gives.value (v := .int .i64 (lowR rs r)) (w' := wq) (by kernel_rfl) ⟨rfl, hI⟩
    · exact Gives.value (v := .int .i64 (highR rs r)) (w' := wq) (by kernel_rfl) ⟨rfl, hI⟩
  · intro wq hI
    have K0 := hI.1
    have HE := hI.2.1
    have HT := Lib.hid hI.2.2
    clear hI
    generalize hlo : lowR rs r = lo at *
    generalize hhi : highR rs r = hig at *
    have HLO := Lib.hid hlo
    have HHI := Lib.hid hhi
    clear hlo hhi
    obtain ⟨u, hu⟩ : ∃ u, rs[r]? = some u := ⟨_, List.getElem?_eq_getElem HR.out⟩
    have HPR := Lib.hid (precI_nat hu)
    obtain ⟨_, ad', he', hadl, _, _, _, c3, _, _⟩ := HT.out.fin.rules.at_ hu
    obtain rfl := Option.some.inj he'
    rw [← HPR.out] at c3
    clear he' hu
    have ct0 := HT.out.blk.cell 0
    have ca0 := K0.out.cell 0
    have hrn := HR.out
    go_upto_region 2 with (fail)
    go_quiet (fail)
    have K0 := Lib.hid (Blk.drewN K0.out nq)
    have HE := Lib.hid (HE.out.keep (below_drewN (Below.refl _ _) nq))
    have HT := Lib.hid (HT.out.keep (below_drewN (Below.refl _ _) nq))
    generalize wq.drewN nq = w2 at *
    clear c3 ct0 hrn hadl ca0
    have ca1 := K0.out.cell 1
    have ca2 := K0.out.cell 2
    go_wp2_with fail
    refine (first_any g _ rs ts gc rows fill frm left lo w2 HT.out h1 h2 h3 hn).mono ?_
    rintro e w3 ⟨v1, bs1, rfl, ho1, hs1, hb⟩
    have HSZ := Lib.hid (show w2.heap.size ≤ w3.heap.size from hb.size)
    obtain ⟨A1, cap1, rfl, hcl1, hcap1, hp1⟩ := ho1.form
    have HS1 := Lib.hid (SideP.of_own (l' := l) ho1 hs1 hp1 (fun b hb' => (HE.out.own.row b hb').2.1))
    have HL1 := Lib.hid hs1.1
    have hl1 : bs1.length ≤ 2 := by rw [hs1.1]; exact first_len
    have K0 := Lib.hid (keep hb K0.out)
    have HE := Lib.hid (HE.out.keep hb)
    have HT := Lib.hid (HT.out.keep hb)
    clear hb ho1 hs1 hp1 ca1 ca2 HSZ
    generalize hF1 : firstR rs ts frm left lo = F1 at *
    have HF1 := Lib.hid hF1
    clear hF1
    go_wp2_with fail
    go_loopw [1, 43] (fun l' n wr => ∃ (k : Nat) (bs' : List Nat), k ≤ bs1.length ∧ n = .int .i64 k ∧ Hid (ExtS rs w0 w l wr l' bs' (xs ++ soloR r at_ (F1.take k))) ∧ Hid (SideP rs wr A1 bs1 F1 l') ∧ Hid (Blk wr w.heap.size 190 #[.int .i64 r, .int .i64 frm, .int .i64 left, .int .i64 right, .int .i64 t2, .int .i64 1])) (fun _ n _ => bs1.length - (intOf n).toNat)
    case atStart => exact ⟨0, bs, by omega, rfl, by rw [List.take_zero, solo_nil, List.append_nil]; exact HE, HS1, K0⟩
    case round =>
      clear HE HS1 K0 HT
      obtain ⟨k, bs', hk, rfl, HE, HS1, K0⟩ := hrel
      by_cases hlt : k < bs1.length
      · obtain ⟨b, hb⟩ : ∃ b, bs1[k]? = some b := ⟨_, List.getElem?_eq_getElem hlt⟩
        obtain ⟨x, hx⟩ : ∃ x, F1[k]? = some x := ⟨_, List.getElem?_eq_getElem (by rw [← HL1.out]; exact hlt)⟩
        obtain ⟨ga, rfl, _, c0⟩ := HS1.out.1 k b hb
        have HX := Lib.hid (HS1.out.2.1.2 k b x hb hx)
        have HSN := Lib.hid (solo_snoc (r := r) (a := at_) hx)
        clear hb hx
        have ca5 := K0.out.cell 5
        have ca0 := K0.out.cell 0
        obtain ⟨A5, cap5, rfl, hcl5, hcap5, _⟩ := HE.out.own.form
        by_cases hl2 : bs'.length < 2
        · have hbx := (bel_alloc wr (.cells (shC rs r at_ (ptrV b) (.pointer none)) 176)).trans ((bel_alloc (wr.alloc (.cells (shC rs r at_ (ptrV b) (.pointer none)) 176)) (.cells #[ptrV wr.heap.size] 137)).mono (by simp))
          have KS := Lib.hid ((Blk.new wr 176 (shC rs r at_ (ptrV b) (.pointer none))).alloc (.cells #[ptrV wr.heap.size] 137))
          have NE := Lib.hid (HE.out.keep hbx)
          have NS := Lib.hid (HS1.out.keep hbx)
          have NK := Lib.hid (keep hbx K0.out)
          have NX := Lib.hid (HX.out.keep hbx)
          have hown : World.ownsRow _ w0.heap.size 137 1 (.slice A5 bs'.length cap5) bs'.length (bs'.map ptrV) := NE.out.own
          have cn := cells_new (wr.alloc (.cells (shC rs r at_ (ptrV b) (.pointer none)) 176)) [ptrV wr.heap.size] 137
          rw [World.size_alloc] at cn
          clear hbx HE HS1 K0 HX
          go_wp2_with (at_builtin; refine wpList_append_own_at _ rfl (.tmp 53) (.tmp 62) 135 rfl w0.heap.size 137 i0 (.pointer none) 1 8 Tryz.underlying135 hi hz0 hz1 hz2 rfl (by decide) _ _ _ rfl hown ⟨wr.heap.size + 1, 0, none⟩ 1 1 [ptrV wr.heap.size] rfl rfl cn ?c2a ?c3a ?c4a ?c5a ?_)
          case c2a => intro u hu; simp at hu; subst hu; rfl
          case c3a => unfold maxLen; omega
          case c4a => omega
          case c5a => exact NE.out.below.size
          intro v' w4 hown' hgrow _ hloc
          have M1 := Lib.hid (NE.out.push hl2 (.one _ _ _ _ _ KS.out NX.out) (ptrs_snoc rfl hown') hgrow (hloc.imp id fun h => h.trans (by simp)))
          have M2 := Lib.hid (NS.out.push hown hgrow (hloc.imp id fun h => h.trans (by simp)))
          have M3 := Lib.hid (NK.out.stay hgrow (fun r hr => (OwnP.row hown r hr).2.2) (by decide))
          rw [List.append_assoc, ← HSN.out] at M1
          clear hown hown' hgrow hloc NE NS NK NX KS cn c0 ca5 ca0
          go_wp2_with fail
          go_roundw
          case rel => exact ⟨k + 1, _, by omega, by go_num, M1, M2, M3⟩
          case measure => simp [intOf]; omega
        · have M1 := Lib.hid (HE.out.full (z := .mk r at_ [x]) hl2)
          rw [List.append_assoc, ← HSN.out] at M1
          clear HE
          go_wp2_with fail
          go_roundw
          case rel => exact ⟨k + 1, _, by omega, by go_num, M1, HS1, K0⟩
          case measure => simp [intOf]; omega
      · obtain rfl : k = bs1.length := by omega
        rw [HL1.out, List.take_length] at HE
        have HQ := Lib.hid (show addsR rs ts at_ ⟨r, frm, left, right, t2, 1⟩ = soloR r at_ F1 by rw [← HF1.out, ← HLO.out]; rfl)
        go_wp2_with fail
        go_ret
        exact ⟨_, _, rfl, by rw [HQ.out]; exact HE.out⟩
set_option maxRecDepth 100000 in
set_option maxHeartbeats 4000000 in
theorem extend_two (g : Nat) (F : Fin) (rs : List Rul) (ts : List ByteArray) (gc : Nat) (rows : Nat → Nat) (fill : Nat → Nat → Bool) (r frm left right t2 at_ : Nat) (l : Value) (bs : List Nat) (xs : List Rd) (w0 w : World) (hT : TabAt w0 g F rs ts gc rows fill) (hb0 : Below w0.heap.size w0 w) (ho : OwnP w w0.heap.size l bs) (hs : Shs rs w bs xs) (hx : xs.length ≤ 2) (hr : r < rs.length) (h1 : frm < left) (h2 : left ≤ ts.length) (h3 : fill frm left = true) (h4 : right < t2) (h5 : t2 ≤ ts.length) (h6 : fill right t2 = true) (hn : rs.length ≤ 1000000) :
    Calls Tryz.prog 147 #[ptrV g, l, .int .i64 at_, .agg #[.int .i64 r, .int .i64 frm, .int .i64 left, .int .i64 right, .int .i64 t2, .int .i64 2]] w (ExtP rs w0 l (xs ++ addsR rs ts at_ ⟨r, frm, left, right, t2, 2⟩) w) := by
  obtain ⟨i0, hi, hz0, hz1, hz2⟩ := info_parts info_ptr
  obtain ⟨R, cR, T, cT, I, cI, P, cP, Q, cQ⟩ := F
  obtain ⟨ad, rfl⟩ : ∃ ad, R = some ad := by
    obtain ⟨_, ad, hA, _⟩ := hT.fin.rules r rs[r] (List.getElem?_eq_getElem hr)
    exact ⟨ad, hA⟩
  have HR := Lib.hid hr
  have hba := bel_alloc w (.cells #[.int .i64 r, .int .i64 frm, .int .i64 left, .int .i64 right, .int .i64 t2, .int .i64 2] 190)
  have HT0 := Lib.hid hT
  have HT := Lib.hid (hT.keep (hb0.trans (hba.mono hb0.size)))
  have K0 := Lib.hid (Blk.new w 190 #[.int .i64 r, .int .i64 frm, .int .i64 left, .int .i64 right, .int .i64 t2, .int .i64 2])
  have HE := Lib.hid (show ExtS rs w0 w l (w.alloc (.cells #[.int .i64 r, .int .i64 frm, .int .i64 left, .int .i64 right, .int .i64 t2, .int .i64 2] 190)) l bs xs from ExtS.keep ⟨ho, by rw [List.take_of_length_le hx]; exact hs, hb0, World.grownBy.refl w _, .inl rfl⟩ hba)
  clear hT hb0 ho hs hx hba hr
  go_enter Tryz.func147, Tryz.ntmps147
  go_upto_region 1 with (fail)
  generalize w.alloc (.cells _ 190) = w1 at *
  refine region_list (by kernel_rfl) _ [.pointer (some ⟨g, 0, none⟩), .pointer (some ⟨g, 0, none⟩), .pointer (some ⟨g, 0, none⟩), .agg #[.slice (some ad) rs.length cR, .slice T ts.length cT, .slice I ts.length cI, .slice P ts.length cP, .slice Q ts.length cQ, .int .i64 (findI rs 4 [])], .agg #[.int .i64 r, .int .i64 frm, .int .i64 left, .int .i64 right, .int .i64 t2, .int .i64 2], .tuple #[.int .i64 (lowR rs r), .int .i64 (highR rs r)], .tuple #[.int .i64 (lowR rs r), .int .i64 (highR rs r)], .int .i64 (lowR rs r), .int .i64 (highR rs r), .int .i64 (lowR rs r), .int .i64 (highR rs r)] [true, true, true, true, true, true, true, true, true, true, true] (fun wq => Hid (Blk wq w.heap.size 190 #[.int .i64 r, .int .i64 frm, .int .i64 left, .int .i64 right, .int .i64 t2, .int .i64 2]) ∧ Hid (ExtS rs w0 w l wq l bs xs) ∧ TabAt wq g ⟨some ad, cR, T, cT, I, cI, P, cP, Q, cQ⟩ rs ts gc rows fill) (by kernel_rfl) (by simp [fin, finOn, dstAt, List.range, List.range.loop, Act.put]; rfl) (by kernel_rfl) ⟨K0.out.drew, HE.out.keep (below_drew (Below.refl _ _)), HT.out.drew⟩ ?_ ?_
  · refine ⟨fun wq hI => ?_, fun wq hI => ?_, fun wq hI => ?_, fun wq hI => ?_, fun wq hI => ?_, fun wq hI => ?_, fun wq hI => ?_, fun wq hI => ?_, fun wq hI => ?_, fun wq hI => ?_, fun wq hI => ?_, trivial⟩
    · exact Gives.value (v := .pointer (some ⟨g, 0, none⟩)) (w' := wq) (by kernel_rfl) ⟨rfl, hI⟩
    · exact Gives.value (v := .pointer (some ⟨g, 0, none⟩)) (w' := wq) (by simp [go_sem]) ⟨rfl, hI⟩
    · exact Gives.value (v := .pointer (some ⟨g, 0, none⟩)) (w' := wq) (by simp [go_sem]) ⟨rfl, hI⟩
    · have cJ := fun i => (hI.2.2.blk.cell i)
      exact Gives.value (v := .agg #[.slice (some ad) rs.length cR, .slice T ts.length cT, .slice I ts.length cI, .slice P ts.length cP, .slice Q ts.length cQ, .int .i64 (findI rs 4 [])]) (w' := wq) (by simp [go_sem, cJ]) ⟨rfl, hI⟩
    · have cA := fun i => hI.1.out.cell i
      exact Gives.value (v := .agg #[.int .i64 r, .int .i64 frm, .int .i64 left, .int .i64 right, .int .i64 t2, .int .i64 2]) (w' := wq) (by simp [go_sem, cA]) ⟨rfl, hI⟩
    · refine Gives.call (f := 157) (args := #[.agg #[.slice (some ad) rs.length cR, .slice T ts.length cT, .slice I ts.length cI, .slice P ts.length cP, .slice Q ts.length cQ, .int .i64 (findI rs 4 [])], .agg #[.int .i64 r, .int .i64 frm, .int .i64 left, .int .i64 right, .int .i64 t2, .int .i64 2]]) (w' := wq) (by kernel_rfl) ((least_any ⟨some ad, cR, T, cT, I, cI, P, cP, Q, cQ⟩ rs ts (findI rs 4 []) ⟨r, frm, left, right, t2, 2⟩ wq hI.2.2.fin HR.out).mono ?_)
      rintro e wa ⟨rfl, hb5⟩
      exact ⟨_, rfl, rfl, keep hb5 hI.1.out, hI.2.1.out.keep hb5, hI.2.2.keep hb5⟩
    · exact Gives.value (v := .tuple #[.int .i64 (lowR rs r), .int .i64 (highR rs r)]) (w' := wq) (by kernel_rfl) ⟨rfl, hI⟩
    · exact Gives.value (v := .int .i64 (lowR rs r)) (w' := wq) (by simp [go_sem]) ⟨rfl, hI⟩
    · exact Gives.value (v := .int .i64 (highR rs r)) (w' := wq) (by simp [go_sem]) ⟨rfl, hI⟩
    · exact Gives.value (v := .int .i64 (lowR rs r)) (w' := wq) (by kernel_rfl) ⟨rfl, hI⟩
    · exact Gives.value (v := .int .i64 (highR rs r)) (w' := wq) (by kernel_rfl) ⟨rfl, hI⟩
  · intro wq hI
    have K0 := hI.1
    have HE := hI.2.1
    have HT := Lib.hid hI.2.2
    clear hI
    generalize hlo : lowR rs r = lo at *
    generalize hhi : highR rs r = hig at *
    have HLO := Lib.hid hlo
    have HHI := Lib.hid hhi
    clear hlo hhi
    obtain ⟨u, hu⟩ : ∃ u, rs[r]? = some u := ⟨_, List.getElem?_eq_getElem HR.out⟩
    have HPR := Lib.hid (precI_nat hu)
    obtain ⟨_, ad', he', hadl, _, _, _, c3, _, _⟩ := HT.out.fin.rules.at_ hu
    obtain rfl := Option.some.inj he'
    rw [← HPR.out] at c3
    clear he' hu
    have ct0 := HT.out.blk.cell 0
    have ca0 := K0.out.cell 0
    have hrn := HR.out
    go_upto_region 2 with (fail)
    go_quiet (fail)
    have K0 := Lib.hid (Blk.drewN K0.out nq)
    have HE := Lib.hid (HE.out.keep (below_drewN (Below.refl _ _) nq))
    have HT := Lib.hid (HT.out.keep (below_drewN (Below.refl _ _) nq))
    generalize wq.drewN nq = w2 at *
    clear c3 ct0 hrn hadl ca0
    have ca1 := K0.out.cell 1
    have ca2 := K0.out.cell 2
    go_wp2_with fail
    refine (first_any g _ rs ts gc rows fill frm left lo w2 HT.out h1 h2 h3 hn).mono ?_
    rintro e w3 ⟨v1, bs1, rfl, ho1, hs1, hb⟩
    have HSZ := Lib.hid (show w2.heap.size ≤ w3.heap.size from hb.size)
    obtain ⟨A1, cap1, rfl, hcl1, hcap1, hp1⟩ := ho1.form
    have HS1 := Lib.hid (SideP.of_own (l' := l) ho1 hs1 hp1 (fun b hb' => (HE.out.own.row b hb').2.1))
    have HL1 := Lib.hid hs1.1
    have hl1 : bs1.length ≤ 2 := by rw [hs1.1]; exact first_len
    have K0 := Lib.hid (keep hb K0.out)
    have HE := Lib.hid (HE.out.keep hb)
    have HT := Lib.hid (HT.out.keep hb)
    clear hb ho1 hs1 hp1 ca1 ca2 HSZ
    generalize hF1 : firstR rs ts frm left lo = F1 at *
    have HF1 := Lib.hid hF1
    clear hF1
    go_wp2_with fail
    generalize hF2 : firstR rs ts right t2 hig = F2
    have HF2 := Lib.hid hF2
    clear hF2
    go_loopw [1, 43] (fun l' n wr => ∃ (k : Nat) (bs' : List Nat), k ≤ bs1.length ∧ n = .int .i64 k ∧ Hid (ExtS rs w0 w l wr l' bs' (xs ++ pairsR r at_ (F1.take k) F2)) ∧ Hid (SideP rs wr A1 bs1 F1 l') ∧ Hid (Blk wr w.heap.size 190 #[.int .i64 r, .int .i64 frm, .int .i64 left, .int .i64 right, .int .i64 t2, .int .i64 2])) (fun _ n _ => bs1.length - (intOf n).toNat)
    case atStart => exact ⟨0, bs, by omega, rfl, by rw [List.take_zero, show pairsR r at_ [] F2 = [] from rfl, List.append_nil]; exact HE, HS1, K0⟩
    case round =>
      clear HE HS1 K0 HT
      obtain ⟨k, bs', hk, rfl, HE, HS1, K0⟩ := hrel
      by_cases hlt : k < bs1.length
      · obtain ⟨b, hb⟩ : ∃ b, bs1[k]? = some b := ⟨_, List.getElem?_eq_getElem hlt⟩
        obtain ⟨x, hx⟩ : ∃ x, F1[k]? = some x := ⟨_, List.getElem?_eq_getElem (by rw [← HL1.out]; exact hlt)⟩
        obtain ⟨ga, rfl, _, c0⟩ := HS1.out.1 k b hb
        have HB1 := Lib.hid hb
        have HX1 := Lib.hid hx
        have HSN := Lib.hid (pairs_snoc (r := r) (a := at_) (m := F2) hx)
        clear hb hx
        have ca5 := K0.out.cell 5
        have ca3 := K0.out.cell 3
        have ca4 := K0.out.cell 4
        go_wp2_with fail
        refine (first_any g _ rs ts gc rows fill right t2 hig wr (HT0.out.keep HE.out.below) h4 h5 h6 hn).mono ?_
        rw [HF2.out]
        rintro e w5 ⟨v2, bs2, rfl, ho2, hs2, hb⟩
        obtain ⟨A2, cap2, rfl, hcl2, hcap2, hp2⟩ := ho2.form
        have HS2 := Lib.hid (SideP.of_own ho2 hs2 hp2 (fun b hb' => (HE.out.own.row b hb').2.1))
        have HL2 := Lib.hid hs2.1
        have hl2 : bs2.length ≤ 2 := by rw [hs2.1, ← HF2.out]; exact first_len
        have K0 := Lib.hid (keep hb K0.out)
        have HE := Lib.hid (HE.out.keep hb)
        have HS1 := Lib.hid (HS1.out.keep hb)
        clear hb ho2 hs2 hp2 ca5 ca3 ca4 c0
        go_wp2_with fail
        go_loopw [1, 72] (fun l'' n wr => ∃ (m : Nat) (bs' : List Nat), m ≤ bs2.length ∧ n = .int .i64 m ∧ Hid (ExtS rs w0 w l wr l'' bs' (xs ++ pairsR r at_ (F1.take k) F2 ++ (F2.take m).map fun y => Rd.mk r at_ [x, y])) ∧ Hid (SideP rs wr (some ⟨ga, 0, none⟩) bs1 F1 l'') ∧ Hid (SideP rs wr A2 bs2 F2 l'') ∧ Hid (Blk wr w.heap.size 190 #[.int .i64 r, .int .i64 frm, .int .i64 left, .int .i64 right, .int .i64 t2, .int .i64 2])) (fun _ n _ => bs2.length - (intOf n).toNat)
        case atStart => exact ⟨0, bs', by omega, rfl, by rw [List.take_zero, List.map_nil, List.append_nil]; exact HE, HS1, HS2, K0⟩
        case round =>
          clear HE HS1 HS2 K0
          obtain ⟨m, bs'', hm, rfl, HE, HS1, HS2, K0⟩ := hrel
          by_cases hlm : m < bs2.length
          · obtain ⟨c, hc⟩ : ∃ c, bs2[m]? = some c := ⟨_, List.getElem?_eq_getElem hlm⟩
            obtain ⟨y, hy⟩ : ∃ y, F2[m]? = some y := ⟨_, List.getElem?_eq_getElem (by rw [← HL2.out]; exact hlm)⟩
            obtain ⟨gb, rfl, _, c0⟩ := HS2.out.1 m c hc
            have HY := Lib.hid (HS2.out.2.1.2 m c y hc hy)
            have HX := Lib.hid (HS1.out.2.1.2 k b x HB1.out HX1.out)
            have HMN := Lib.hid (mapk_snoc (r := r) (a := at_) (x := x) hy)
            clear hc hy
            have ca0 := K0.out.cell 0
            obtain ⟨A5, cap5, rfl, hcl5, hcap5, _⟩ := HE.out.own.form
            by_cases hlb : bs''.length < 2
            · have hbx := (bel_alloc wr (.cells (shC rs r at_ (ptrV b) (ptrV c)) 176)).trans ((bel_alloc (wr.alloc (.cells (shC rs r at_ (ptrV b) (ptrV c)) 176)) (.cells #[ptrV wr.heap.size] 137)).mono (by simp))
              have KS := Lib.hid ((Blk.new wr 176 (shC rs r at_ (ptrV b) (ptrV c))).alloc (.cells #[ptrV wr.heap.size] 137))
              have NE := Lib.hid (HE.out.keep hbx)
              have NS := Lib.hid (HS1.out.keep hbx)
              have NS2 := Lib.hid (HS2.out.keep hbx)
              have NK := Lib.hid (keep hbx K0.out)
              have NX := Lib.hid (HX.out.keep hbx)
              have NY := Lib.hid (HY.out.keep hbx)
              have hown : World.ownsRow _ w0.heap.size 137 1 (.slice A5 bs''.length cap5) bs''.length (bs''.map ptrV) := NE.out.own
              have cn := cells_new (wr.alloc (.cells (shC rs r at_ (ptrV b) (ptrV c)) 176)) [ptrV wr.heap.size] 137
              rw [World.size_alloc] at cn
              clear hbx HE HS1 HS2 K0 HX HY
              go_wp2_with (at_builtin; refine wpList_append_own_at _ rfl (.tmp 79) (.tmp 89) 135 rfl w0.heap.size 137 i0 (.pointer none) 1 8 Tryz.underlying135 hi hz0 hz1 hz2 rfl (by decide) _ _ _ rfl hown ⟨wr.heap.size + 1, 0, none⟩ 1 1 [ptrV wr.heap.size] rfl rfl cn ?c2a ?c3a ?c4a ?c5a ?_)
              case c2a => intro u hu; simp at hu; subst hu; rfl
              case c3a => unfold maxLen; omega
              case c4a => omega
              case c5a => exact NE.out.below.size
              intro v' w4 hown' hgrow _ hloc
              have M1 := Lib.hid (NE.out.push hlb (.two _ _ _ _ _ _ _ KS.out NX.out NY.out) (ptrs_snoc rfl hown') hgrow (hloc.imp id fun h => h.trans (by simp)))
              have M2 := Lib.hid (NS.out.push hown hgrow (hloc.imp id fun h => h.trans (by simp)))
              have M4 := Lib.hid (NS2.out.push hown hgrow (hloc.imp id fun h => h.trans (by simp)))
              have M3 := Lib.hid (NK.out.stay hgrow (fun r hr => (OwnP.row hown r hr).2.2) (by decide))
              rw [List.append_assoc, ← HMN.out] at M1
              clear hown hown' hgrow hloc NE NS NS2 NK NX NY KS cn c0 ca0
              go_wp2_with fail
              go_roundw
              case rel => exact ⟨m + 1, _, by omega, by go_num, M1, M2, M4, M3⟩
              case measure => simp [intOf]; omega
            · have M1 := Lib.hid (HE.out.full (z := .mk r at_ [x, y]) hlb)
              rw [List.append_assoc, ← HMN.out] at M1
              clear HE
              go_wp2_with fail
              go_roundw
              case rel => exact ⟨m + 1, _, by omega, by go_num, M1, HS1, HS2, K0⟩
              case measure => simp [intOf]; omega
          · obtain rfl : m = bs2.length := by omega
            rw [HL2.out, List.take_length, List.append_assoc, ← HSN.out] at HE
            go_wp2_with fail
            go_roundw
            case rel => exact ⟨k + 1, _, by omega, by go_num, HE, HS1, K0⟩
            case measure => simp [intOf]; omega
      · obtain rfl : k = bs1.length := by omega
        rw [HL1.out, List.take_length] at HE
        have HQ := Lib.hid (show addsR rs ts at_ ⟨r, frm, left, right, t2, 2⟩ = pairsR r at_ F1 F2 by rw [← HF1.out, ← HF2.out, ← HLO.out, ← HHI.out]; rfl)
        go_wp2_with fail
        go_ret
        exact ⟨_, _, rfl, by rw [HQ.out]; exact HE.out⟩
end Go.Proofs.YthpioplpfmlgcaaGreatDoor.Ch
