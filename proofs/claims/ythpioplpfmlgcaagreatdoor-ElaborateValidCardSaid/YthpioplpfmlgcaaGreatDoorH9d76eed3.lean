/- The reader of the program: newReader, operator. -/
import Derived.Test.YthpioplpfmlgcaaGreatDoorH490bea4c
import Derived.Test.YthpioplpfmlgcaaGreatDoorHba315fb3
import Derived.BigQuiet
import Derived.Deep.DeepCutAuto
namespace Go.Proofs.YthpioplpfmlgcaaGreatDoor.El
open Go.Proofs.YthpioplpfmlgcaaGreatDoor.At
open Go.Proofs.YthpioplpfmlgcaaGreatDoor.Ch
open Go.Proofs.YthpioplpfmlgcaaGreatDoor.Sp
open Go.Proofs.YthpioplpfmlgcaaGreatDoor.Sy
open Go.RowKit
theorem sym_mem (s : List UInt8) : ∀ (rs : List Rul) (acc : List (List UInt8)), s ∈ rs.foldl symStep acc ↔ s ∈ acc ∨ (s ≠ [] ∧ ∃ r ∈ rs, r.sym.data.toList = s)
  | [], acc => by simp
  | r :: rs, acc => by
    rw [List.foldl_cons, sym_mem s rs]
    unfold symStep
    by_cases h : r.sym.data.toList = [] ∨ acc.contains r.sym.data.toList = true
    · rw [if_pos h]
      constructor
      · rintro (h1 | ⟨h1, x, h2, h3⟩)
        · exact .inl h1
        · exact .inr ⟨h1, x, List.mem_cons_of_mem _ h2, h3⟩
      · rintro (h1 | ⟨h1, x, h2, h3⟩)
        · exact .inl h1
        · rcases List.mem_cons.1 h2 with rfl | h2
          · rcases h with h | h
            · exact absurd (h3.symm.trans h) h1
            · rw [h3, List.contains_iff_mem] at h
              exact .inl h
          · exact .inr ⟨h1, x, h2, h3⟩
    · rw [if_neg h, List.mem_append, List.mem_singleton]
      simp only [not_or] at h
      constructor
      · rintro ((h1 | h1) | ⟨h1, x, h2, h3⟩)
        · exact .inl h1
        · exact .inr ⟨h1 ▸ h.1, r, List.mem_cons_self, h1.symm⟩
        · exact .inr ⟨h1, x, List.mem_cons_of_mem _ h2, h3⟩
      · rintro (h1 | ⟨h1, x, h2, h3⟩)
        · exact .inl (.inl h1)
        · rcases List.mem_cons.1 h2 with rfl | h2
          · exact .inl (.inr h3.symm)
          · exact .inr ⟨h1, x, h2, h3⟩
theorem sym_has (rs : List Rul) (s : List UInt8) : (symOf rs).contains s = hasSy rs s := by
  rw [Bool.eq_iff_iff, List.contains_iff_mem]
  unfold symOf hasSy
  rw [sym_mem, Bool.and_eq_true, List.any_eq_true]
  cases s with
  | nil => simp
  | cons a r => simp
/-- a reader -/
structure RdrAt (w : World) (g : Nat) (A : Option Addr) (cap : Nat) (rs : List Rul) : Prop where
  rul : RulsAt w A rs
  box : ∃ b n D, Blk w g 105 #[.slice A rs.length cap, .map (some b)] ∧ OwnMap w b n D ∧ SeenIs D (symOf rs)
theorem RdrAt.keep {w w' : World} {g : Nat} {A : Option Addr} {cap : Nat} {rs : List Rul} (h : RdrAt w g A cap rs) (hb : Below w.heap.size w w') : RdrAt w' g A cap rs := by
  obtain ⟨b, n, D, h1, h2, h3⟩ := h.box
  exact ⟨h.rul.keep hb, b, n, D, _root_.Go.Proofs.YthpioplpfmlgcaaGreatDoor.keep hb h1, World.ownsMap.kept (row := none) h2 ⟨hb.os, hb.tape, hb.output, hb.size, fun i hi _ => hb.block i hi⟩ (by simp), h3⟩
theorem look_sy {w : World} {b n : Nat} {D : DataW Unit} {rs : List Rul} (hM : OwnMap w b n D) (hS : SeenIs D (symOf rs)) {s : ByteArray} (hs : s.size ≤ 9223372036854775807) : (Instr.lookup 103 (.map (some b)) (.string s) false).run Tryz.prog w = .ok (.bool (hasSy rs s.data.toList)) w := by
  obtain ⟨c, h1, h2⟩ := lookup_bool hM law9 Tryz.underlying103 Tryz.underlying4 (zero4 _) (Go.WideMaps.keyOf_string_mk (P := Tryz.prog) (k := 9) Tryz.underlying9 (s := s) (by unfold maxLen; omega))
  rw [hS s.data.toList] at h2
  obtain rfl : (symOf rs).contains s.data.toList = c := by simpa using h2
  rw [h1, sym_has]
theorem _root_.Go.Proofs.YthpioplpfmlgcaaGreatDoor.Sy.OwnStrs.strs {w : World} {B n cap : Nat} {A : Option Addr} {ps : List (List UInt8)} (h : OwnStrs w B (.slice A n cap) ps) : StrsO w A ps := by
  obtain ⟨A', cap', e, _, _, hI⟩ := h.form
  injection e with e1
  rw [e1]
  exact hI
/-- behind newReader -/
def NewRP (A : Option Addr) (cap : Nat) (rs : List Rul) (w : World) (e : Ending) (w' : World) : Prop := ∃ g, e = .returned (.pointer (some ⟨g, 0, none⟩)) ∧ RdrAt w' g A cap rs ∧ Below w.heap.size w w'
set_option maxRecDepth 100000 in
set_option maxHeartbeats 1600000 in
theorem newReader_any (A : Option Addr) (cap : Nat) (rs : List Rul) (w : World) (hR : RulsAt w A rs) (hn : rs.length ≤ 1000000) : Calls Tryz.prog 36 #[.slice A rs.length cap] w (NewRP A cap rs w) := by
  have hmm := @run_makeMap Tryz.prog
  have B1 := bel_alloc w (.map #[] 0)
  have s1 : (w.alloc (.map #[] 0)).heap.size = w.heap.size + 1 := by simp
  have B2 := bel_alloc (w.alloc (.map #[] 0)) (.cells #[.slice A rs.length cap, .map (some w.heap.size)] 105)
  have HB := Lib.hid (B1.trans (B2.mono B1.size))
  have HM := Lib.hid (show OwnMap ((w.alloc (.map #[] 0)).alloc (.cells #[.slice A rs.length cap, .map (some w.heap.size)] 105)) w.heap.size 0 (.map []) from (World.ownsMap_made (H := Unit) w Tryz.prog 9 (plainElem Tryz.prog 4)).alloc _)
  have K1 := Lib.hid (Blk.new (w.alloc (.map #[] 0)) 105 #[.slice A rs.length cap, .map (some w.heap.size)])
  rw [s1] at K1
  have HR0 := Lib.hid hR
  have HR := Lib.hid (hR.keep HB.out)
  clear hR B1 B2 s1
  go_enter Tryz.func36, Tryz.ntmps36
  go_upto_region 2 with (fail)
  generalize (w.alloc (.map #[] 0)).alloc (.cells #[.slice A rs.length cap, .map (some w.heap.size)] 105) = w1 at *
  clear hmm
  go_wp2_with fail
  refine (symbols_any A cap rs w1 HR.out hn).mono ?_
  rintro e w2 ⟨v, rfl, ho, hb⟩
  obtain ⟨A5, cap5, rfl, hcl5, hcap5, hI⟩ := ho.form
  have HI := Lib.hid ho
  have HW1 := Lib.hid HB.out.size
  have HLS := Lib.hid (show (symOf rs).length ≤ 1000000 by have := symOf_len rs rs.length; rw [List.take_length] at this; omega)
  have HSI := Lib.hid (show ∀ p ∈ symOf rs, p.length ≤ 9223372036854775807 from fun p hp => by
    obtain ⟨h1, r, h2, h3⟩ := ((sym_mem p rs []).1 hp).resolve_left (by simp)
    obtain ⟨i, hi⟩ := List.getElem?_of_mem h2
    obtain ⟨hf, _⟩ := HR.out.at_ hi
    have := hf.1
    rw [← h3]
    simpa using this)
  replace K1 := Lib.hid (keep hb K1.out)
  replace HR := Lib.hid (HR.out.keep hb)
  replace HM := Lib.hid (show OwnMap w2 w.heap.size 0 (.map []) from World.ownsMap.kept (row := none) HM.out ⟨hb.os, hb.tape, hb.output, hb.size, fun i hi _ => hb.block i hi⟩ (by simp))
  replace HB := Lib.hid (HB.out.trans (hb.mono HB.out.size))
  clear ho hb hI
  generalize hss : symOf rs = ss at *
  have HSS := Lib.hid hss
  clear hss
  have hls := HLS.out
  go_wp2_with fail
  go_loopw [13] (fun i wr => ∃ (k : Nat) (D : DataW Unit), k ≤ ss.length ∧ i = .int .i64 k ∧ Hid (OwnMap wr w.heap.size k D) ∧ Hid (SeenIs D (ss.take k)) ∧ Hid (OwnStrs wr w1.heap.size (.slice A5 ss.length cap5) ss) ∧ Hid (Blk wr (w.heap.size + 1) 105 #[.slice A rs.length cap, .map (some w.heap.size)]) ∧ Hid (Below w.heap.size w wr)) (fun i _ => ss.length - (intOf i).toNat)
  case atStart => exact ⟨0, .map [], by omega, rfl, HM, Lib.hid seen_nil, HI, K1, HB⟩
  case round =>
    clear HM HI K1 HR HB
    obtain ⟨k, D, hk, rfl, HM, HSE, HI, K1, HB⟩ := hrel
    by_cases hlt : k < ss.length
    · obtain ⟨p, hp⟩ : ∃ p, ss[k]? = some p := ⟨_, List.getElem?_eq_getElem hlt⟩
      obtain ⟨gp, rfl, hgp, hcp⟩ := HI.out.strs k p hp
      have HPZ := Lib.hid (HSI.out p (List.mem_of_getElem? hp))
      have HSN := Lib.hid (show SeenIs (D.put (.string (bys p).data.toList) (.lit (.bool true))) (ss.take (k + 1)) by
        rw [List.take_add_one, hp, bys_data]
        exact seen_put HSE.out (World.ownsMap.isMap HM.out) _)
      have HKEY := Lib.hid (Go.WideMaps.keyOf_string_mk (P := Tryz.prog) (k := 9) Tryz.underlying9 (s := bys p) (by unfold maxLen; have := HPZ.out; rw [show (bys p).size = p.length by simp [bys, ByteArray.size]]; omega))
      have c1 := K1.out.cell 1
      clear hp
      go_wp2_with (at_mapUpdate; refine wpList_mapUpdate_own _ rfl _ _ _ 103 rfl 9 4 law9 Tryz.underlying103 _ w.heap.size k D rfl HM.out (by unfold maxLen; omega) _ _ _ rfl rfl HKEY.out (.lit (.bool true)) [] (plainElem_bool Tryz.underlying4 true) ?_)
      intro w3 hm3 hgrow3
      have hne : ∀ r, some w.heap.size = some r → w.heap.size ≤ r := fun r e => by have := Option.some.inj e; omega
      have NB := Lib.hid (HB.out.grown hgrow3 HB.out.size hne)
      have NI := Lib.hid (show OwnStrs w3 w1.heap.size (.slice (some ⟨gp, 0, none⟩) ss.length cap5) ss from World.ownsRow.kept HI.out hgrow3 (.inr (map_not_row HM.out HI.out)))
      have NK := Lib.hid (K1.out.grown hgrow3 (fun e => by have := Option.some.inj e; omega))
      have NM := Lib.hid (show OwnMap w3 w.heap.size (k + 1) (D.put (.string (bys p).data.toList) (.lit (.bool true))) from hm3)
      clear hm3 hgrow3 hne HM HI K1 HB c1 hcp
      go_wp2_with fail
      go_roundw
      case rel => exact ⟨k + 1, _, by omega, by go_num, NM, HSN, NI, NK, NB⟩
      case measure => simp [intOf]; omega
    · obtain rfl : k = ss.length := by omega
      rw [List.take_length] at HSE
      go_wp2_with fail
      go_ret
      exact ⟨w.heap.size + 1, rfl, ⟨HR0.out.keep HB.out, w.heap.size, _, D, K1.out, HM.out, by rw [HSS.out]; exact HSE.out⟩, HB.out⟩
/-- whether an item has scripts -/
def scrB (k : Int) : Bool := decide (k = 7 ∨ k = 8 ∨ k = 9)
set_option maxHeartbeats 800000 in
theorem scripted_any (k : Int) (s : ByteArray) (cc : Int) (A : Option Addr) (n cap : Nat) (w : World) : Calls Tryz.prog 142 #[.agg #[.int .i64 k, .string s, .int .i64 cc, .slice A n cap]] w fun e w' => e = .returned (.bool (scrB k)) ∧ Below w.heap.size w w' := by
  have HB := Lib.hid (bel_alloc w (.cells #[.int .i64 k, .string s, .int .i64 cc, .slice A n cap] 25))
  have K1 := Lib.hid (Blk.new w 25 #[.int .i64 k, .string s, .int .i64 cc, .slice A n cap])
  have c0 := K1.out.cell 0
  by_cases h7 : k = 7
  · have q : (k == 7) = true := beq_iff_eq.2 h7
    have HR := Lib.hid (show scrB k = true from decide_eq_true (.inl h7))
    clear h7
    go_enter Tryz.func142, Tryz.ntmps142
    go_wp2_with fail
    go_ret
    exact ⟨ret_bool HR.out.symm, HB.out⟩
  have q7 : (k == 7) = false := beq_eq_false_iff_ne.2 h7
  by_cases h8 : k = 8
  · have q : (k == 8) = true := beq_iff_eq.2 h8
    have HR := Lib.hid (show scrB k = true from decide_eq_true (.inr (.inl h8)))
    clear h7 h8
    go_enter Tryz.func142, Tryz.ntmps142
    go_wp2_with fail
    go_ret
    exact ⟨ret_bool HR.out.symm, HB.out⟩
  have q8 : (k == 8) = false := beq_eq_false_iff_ne.2 h8
  by_cases h9 : k = 9
  · have q : (k == 9) = true := beq_iff_eq.2 h9
    have HR := Lib.hid (show scrB k = true from decide_eq_true (.inr (.inr h9)))
    clear h7 h8 h9
    go_enter Tryz.func142, Tryz.ntmps142
    go_wp2_with fail
    go_ret
    exact ⟨ret_bool HR.out.symm, HB.out⟩
  have q9 : (k == 9) = false := beq_eq_false_iff_ne.2 h9
  have HR := Lib.hid (show scrB k = false from decide_eq_false (by rintro (h | h | h) <;> contradiction))
  clear h7 h8 h9
  go_enter Tryz.func142, Tryz.ntmps142
  go_wp2_with fail
  go_ret
  exact ⟨ret_bool HR.out.symm, HB.out⟩
theorem unsc_no {n : Tre} (h : scrB n.kind = false) : unsc n = n := by
  unfold unsc
  unfold scrB at h
  rw [if_neg (of_decide_eq_false h)]
theorem unsc_many {n b : Tre} {ks : List Tre} (hk : n.kids = b :: ks) (h : b.kids.length ≠ 1) : unsc n = n := by
  unfold unsc
  rw [hk]
  split
  · dsimp only
    split
    · next x hx => rw [hx] at h; simp at h
    · rfl
  · rfl
theorem unsc_one {n b x : Tre} {ks : List Tre} (hs : scrB n.kind = true) (hk : n.kids = b :: ks) (h : b.kids = [x]) : unsc n = x := by
  unfold unsc
  unfold scrB at hs
  rw [if_pos (of_decide_eq_true hs), hk]
  dsimp only
  rw [h]
theorem map_keep {w w' : World} {b n : Nat} {D : DataW Unit} (h : OwnMap w b n D) (hb : Below w.heap.size w w') : OwnMap w' b n D := World.ownsMap.kept (row := none) h ⟨hb.os, hb.tape, hb.output, hb.size, fun i hi _ => hb.block i hi⟩ (by simp)
theorem add_zero' (ad : Addr) : ad.add (0 * 4) = ad := by unfold Addr.add; cases ad; simp
theorem grown_set' (w : World) (p : Addr) (u : Value) : w.grownBy (w.setCell p u) (some p.block) :=
  ⟨rfl, rfl, rfl, by simp [World.setCell], fun k _ hk => Below.heap_setCell _ _ _ _ (fun e => hk (by simp [e]))⟩
theorem grown_two {a b c : World} {row : Option Nat} (h : a.grownBy b row) (k : b.grownBy c row) : a.grownBy c row :=
  ⟨k.os.trans h.os, k.tape.trans h.tape, k.output.trans h.output, Nat.le_trans h.size k.size, fun i hi hn => (k.block i (Nat.lt_of_lt_of_le hi h.size) hn).trans (h.block i hi hn)⟩
theorem grown4 (x : World) (g : Nat) (c0 c1 c2 c3 : Value) : x.grownBy ((((x.setCell ⟨g, 0, none⟩ c0).setCell ⟨g, 1, none⟩ c1).setCell ⟨g, 2, none⟩ c2).setCell ⟨g, 3, none⟩ c3) (some g) :=
  grown_two (grown_two (grown_two (grown_set' x ⟨g, 0, none⟩ c0) (grown_set' _ ⟨g, 1, none⟩ c1)) (grown_set' _ ⟨g, 2, none⟩ c2)) (grown_set' _ ⟨g, 3, none⟩ c3)
theorem set4 {x : World} {g : Nat} {t : TypeId} {d0 d1 d2 d3 : Value} (h : Blk x g t #[d0, d1, d2, d3]) (c0 c1 c2 c3 : Value) : Blk ((((x.setCell ⟨g, 0, none⟩ c0).setCell ⟨g, 1, none⟩ c1).setCell ⟨g, 2, none⟩ c2).setCell ⟨g, 3, none⟩ c3) g t #[c0, c1, c2, c3] := (((h.set_ 0 c0).set_ 1 c1).set_ 2 c2).set_ 3 c3
set_option maxRecDepth 100000 in
set_option maxHeartbeats 4000000 in
theorem operator_any (g : Nat) (A : Option Addr) (cap : Nat) (rs : List Rul) (n : Tre) (c : Array Value) (w : World) (hR : RdrAt w g A cap rs) (hN : NodAt w n c) (hne : scrB n.kind = true → n.kids ≠ []) : Calls Tryz.prog 124 #[.pointer (some ⟨g, 0, none⟩), .agg c] w fun e w' => e = .returned (.tuple #[.string (unsc n).text, .bool (operB rs n)]) ∧ Below w.heap.size w w' := by
  obtain ⟨A2, cap2, rfl, hsz, hl, hc, hk⟩ := hN.form
  obtain ⟨b, nb, D, hbx, hmp, hse⟩ := hR.box
  have hb0 := bel_alloc w (.cells #[.int .i64 n.kind, .string n.text, .int .i64 n.cols, .slice A2 n.kids.length cap2] 25)
  have HB := Lib.hid hb0
  have K1 := Lib.hid (Blk.new w 25 #[.int .i64 n.kind, .string n.text, .int .i64 n.cols, .slice A2 n.kids.length cap2])
  have HGL := Lib.hid (And.intro hbx.lt hmp.lt)
  have HBX := Lib.hid (keep hb0 hbx)
  have HMP := Lib.hid (map_keep hmp hb0)
  have HSE := Lib.hid hse
  have HK := Lib.hid (hk.keep hb0)
  have HNE := Lib.hid hne
  have HTZ := Lib.hid hsz
  clear hR hN hk hne hbx hmp hse hb0
  go_enter Tryz.func124, Tryz.ntmps124
  go_upto_region 1 with (fail)
  generalize w.alloc (.cells #[.int .i64 n.kind, .string n.text, .int .i64 n.cols, .slice A2 n.kids.length cap2] 25) = w1 at *
  have k0 := fun i => K1.out.cell i
  go_wp2_with fail
  refine (scripted_any n.kind n.text n.cols A2 n.kids.length cap2 w1).mono ?_
  rintro e w2 ⟨rfl, hb⟩
  replace HBX := Lib.hid (keep hb HBX.out)
  replace HMP := Lib.hid (map_keep HMP.out hb)
  replace HK := Lib.hid (HK.out.keep hb)
  replace K1 := Lib.hid (keep hb K1.out)
  replace HB := Lib.hid (HB.out.trans (hb.mono HB.out.size))
  clear hb k0
  cases hsc : scrB n.kind
  · have HU := Lib.hid (unsc_no hsc)
    clear hsc
    go_upto_region 3 with (fail)
    by_cases h2 : n.kind = 2
    · have qk : (n.kind == 2) = true := beq_iff_eq.2 h2
      have HOP := Lib.hid (show operB rs n = hasSy rs n.text.data.toList by unfold operB; rw [HU.out, decide_eq_true h2, Bool.true_and])
      clear h2
      refine region_list (by kernel_rfl) _ [.pointer (some ⟨w.heap.size, 1, none⟩), .string n.text, .pointer (some ⟨w.heap.size, 0, none⟩), .int .i64 n.kind, .bool true, .bool true, .pointer (some ⟨g, 0, none⟩), .pointer (some ⟨g, 0, none⟩), .pointer (some ⟨g, 1, none⟩), .map (some b), .pointer (some ⟨w.heap.size, 1, none⟩), .string n.text, .bool (hasSy rs n.text.data.toList), .bool (hasSy rs n.text.data.toList), .string n.text, .bool (hasSy rs n.text.data.toList)] [true, true, true, true, true, true, true, true, true, true, true, true, true, true, true, true] (fun wq => (Blk wq g 105 #[.slice A rs.length cap, .map (some b)] ∧ OwnMap wq b nb D) ∧ Blk wq w.heap.size 25 #[.int .i64 n.kind, .string n.text, .int .i64 n.cols, .slice A2 n.kids.length cap2] ∧ Below w.heap.size w wq) (by kernel_rfl) (by simp [fin, finOn, dstAt, List.range, List.range.loop, Act.put]; rfl) (by kernel_rfl) ⟨⟨HBX.out.drew, World.ownsMap.drew HMP.out⟩, K1.out.drew, below_drew HB.out⟩ ?_ ?_
      · refine ⟨fun wq hI => ?_, fun wq hI => ?_, fun wq hI => ?_, fun wq hI => ?_, fun wq hI => ?_, fun wq hI => ?_, fun wq hI => ?_, fun wq hI => ?_, fun wq hI => ?_, fun wq hI => ?_, fun wq hI => ?_, fun wq hI => ?_, fun wq hI => ?_, fun wq hI => ?_, fun wq hI => ?_, fun wq hI => ?_, trivial⟩
        · exact Gives.value (v := .pointer (some ⟨w.heap.size, 1, none⟩)) (w' := wq) (by simp [go_sem]) ⟨rfl, hI⟩
        · have cJ := hI.2.1.cell 1
          exact Gives.value (v := .string n.text) (w' := wq) (by simp [go_sem, cJ]) ⟨rfl, hI⟩
        · exact Gives.value (v := .pointer (some ⟨w.heap.size, 0, none⟩)) (w' := wq) (by simp [go_sem]) ⟨rfl, hI⟩
        · have cJ := hI.2.1.cell 0
          exact Gives.value (v := .int .i64 n.kind) (w' := wq) (by simp [go_sem, cJ]) ⟨rfl, hI⟩
        · skip
          exact Gives.value (v := .bool true) (w' := wq) (by simp [go_sem, qk]) ⟨rfl, hI⟩
        · exact Gives.value (v := .bool true) (w' := wq) (by kernel_rfl) ⟨rfl, hI⟩
        · exact Gives.value (v := .pointer (some ⟨g, 0, none⟩)) (w' := wq) (by kernel_rfl) ⟨rfl, hI⟩
        · exact Gives.value (v := .pointer (some ⟨g, 0, none⟩)) (w' := wq) (by simp [go_sem]) ⟨rfl, hI⟩
        · exact Gives.value (v := .pointer (some ⟨g, 1, none⟩)) (w' := wq) (by simp [go_sem]) ⟨rfl, hI⟩
        · have cJ := hI.1.1.cell 1
          exact Gives.value (v := .map (some b)) (w' := wq) (by simp [go_sem, cJ]) ⟨rfl, hI⟩
        · exact Gives.value (v := .pointer (some ⟨w.heap.size, 1, none⟩)) (w' := wq) (by simp [go_sem]) ⟨rfl, hI⟩
        · have cJ := hI.2.1.cell 1
          exact Gives.value (v := .string n.text) (w' := wq) (by simp [go_sem, cJ]) ⟨rfl, hI⟩
        · have hlk := look_sy hI.1.2 HSE.out (s := n.text) HTZ.out
          exact Gives.value (v := .bool (hasSy rs n.text.data.toList)) (w' := wq) (by simp [go_sem, hlk]) ⟨rfl, hI⟩
        · exact Gives.value (v := .bool (hasSy rs n.text.data.toList)) (w' := wq) (by kernel_rfl) ⟨rfl, hI⟩
        · exact Gives.value (v := .string n.text) (w' := wq) (by kernel_rfl) ⟨rfl, hI⟩
        · exact Gives.value (v := .bool (hasSy rs n.text.data.toList)) (w' := wq) (by kernel_rfl) ⟨rfl, hI⟩
      · intro wq hI
        have HBE := Lib.hid hI.2.2
        clear hI
        generalize wq = w9 at *
        go_wp2_with fail
        exact bodyPost_ret (v := .tuple #[.string n.text, .bool (hasSy rs n.text.data.toList)]) (by simp [results, Tryz.results124, go_sem]) rfl ⟨by rw [HOP.out, HU.out], HBE.out⟩
    · have qk : (n.kind == 2) = false := beq_eq_false_iff_ne.2 h2
      have HOP := Lib.hid (show operB rs n = false by unfold operB; rw [HU.out, decide_eq_false h2, Bool.false_and])
      clear h2
      refine region_list (by kernel_rfl) _ [.pointer (some ⟨w.heap.size, 1, none⟩), .string n.text, .pointer (some ⟨w.heap.size, 0, none⟩), .int .i64 n.kind, .bool false, .bool false, undef, undef, undef, undef, undef, undef, undef, .bool false, .string n.text, .bool false] [true, true, true, true, true, true, false, false, false, false, false, false, false, true, true, true] (fun wq => (Blk wq g 105 #[.slice A rs.length cap, .map (some b)] ∧ OwnMap wq b nb D) ∧ Blk wq w.heap.size 25 #[.int .i64 n.kind, .string n.text, .int .i64 n.cols, .slice A2 n.kids.length cap2] ∧ Below w.heap.size w wq) (by kernel_rfl) (by simp [fin, finOn, dstAt, List.range, List.range.loop, Act.put]; rfl) (by kernel_rfl) ⟨⟨HBX.out.drew, World.ownsMap.drew HMP.out⟩, K1.out.drew, below_drew HB.out⟩ ?_ ?_
      · refine ⟨fun wq hI => ?_, fun wq hI => ?_, fun wq hI => ?_, fun wq hI => ?_, fun wq hI => ?_, fun wq hI => ?_, rfl, rfl, rfl, rfl, rfl, rfl, rfl, fun wq hI => ?_, fun wq hI => ?_, fun wq hI => ?_, trivial⟩
        · exact Gives.value (v := .pointer (some ⟨w.heap.size, 1, none⟩)) (w' := wq) (by simp [go_sem]) ⟨rfl, hI⟩
        · have cJ := hI.2.1.cell 1
          exact Gives.value (v := .string n.text) (w' := wq) (by simp [go_sem, cJ]) ⟨rfl, hI⟩
        · exact Gives.value (v := .pointer (some ⟨w.heap.size, 0, none⟩)) (w' := wq) (by simp [go_sem]) ⟨rfl, hI⟩
        · have cJ := hI.2.1.cell 0
          exact Gives.value (v := .int .i64 n.kind) (w' := wq) (by simp [go_sem, cJ]) ⟨rfl, hI⟩
        · skip
          exact Gives.value (v := .bool false) (w' := wq) (by simp [go_sem, qk]) ⟨rfl, hI⟩
        · exact Gives.value (v := .bool false) (w' := wq) (by kernel_rfl) ⟨rfl, hI⟩
        · exact Gives.value (v := .bool false) (w' := wq) (by kernel_rfl) ⟨rfl, hI⟩
        · exact Gives.value (v := .string n.text) (w' := wq) (by kernel_rfl) ⟨rfl, hI⟩
        · exact Gives.value (v := .bool false) (w' := wq) (by kernel_rfl) ⟨rfl, hI⟩
      · intro wq hI
        have HBE := Lib.hid hI.2.2
        clear hI
        generalize wq = w9 at *
        go_wp2_with fail
        exact bodyPost_ret (v := .tuple #[.string n.text, .bool (false)]) (by simp [results, Tryz.results124, go_sem]) rfl ⟨by rw [HOP.out, HU.out], HBE.out⟩
  have HSC := Lib.hid hsc
  obtain ⟨b0, ks, hks⟩ : ∃ b0 ks, n.kids = b0 :: ks := by
    cases hq : n.kids with
    | nil => exact absurd hq (HNE.out hsc)
    | cons b0 ks => exact ⟨b0, ks, rfl⟩
  obtain ⟨ad, A3, cap3, hA2, hadl, _, hl3, hc3, hk3, hn3, d0, d1, d2, d3⟩ := HK.out.at_ (i := 0) (t := b0) (by rw [hks]; rfl)
  subst hA2
  rw [add_zero'] at d0 d1 d2 d3
  have HKS := Lib.hid hks
  have hpos : (0 : Int) < (n.kids.length : Int) := by rw [hks, List.length_cons]; omega
  have k3 := K1.out.cell 3
  clear hks hsc
  by_cases h1 : b0.kids.length = 1
  · obtain ⟨x, hx⟩ : ∃ x, b0.kids = [x] := List.length_eq_one_iff.1 h1
    obtain ⟨ad4, A4, cap4, hA3, hadl4, hxz, _, _, _, _, e0, e1, e2, e3⟩ := hk3.at_ (i := 0) (t := x) (by rw [hx]; rfl)
    subst hA3
    rw [add_zero'] at e0 e1 e2 e3
    have HU := Lib.hid (unsc_one HSC.out HKS.out hx)
    have HTZ := Lib.hid hxz
    have h1i : (b0.kids.length : Int) = 1 := by omega
    have q1 : ((b0.kids.length : Int) == 1) = true := by rw [h1i]; rfl
    have k0 := fun i => K1.out.cell i
    have f0 := fun i => K1.out.frozen i
    clear hx h1 hk3
    rw [show b0.kids.length = 1 by omega] at d3
    clear h1i q1
    go_upto_region 3 with (fail)
    have hgr := grown4 w2 w.heap.size (.int .i64 x.kind) (.string x.text) (.int .i64 x.cols) (.slice A4 x.kids.length cap4)
    have hse := set4 K1.out (.int .i64 x.kind) (.string x.text) (.int .i64 x.cols) (.slice A4 x.kids.length cap4)
    replace HBX := Lib.hid (HBX.out.grown hgr (fun e => by have := Option.some.inj e; have := HGL.out.1; omega))
    replace HMP := Lib.hid (show OwnMap _ b nb D from World.ownsMap.kept HMP.out hgr (fun e => by have := Option.some.inj e; have := HGL.out.2; omega))
    replace HB := Lib.hid (HB.out.grown hgr HB.out.size fun r e => by have := Option.some.inj e; omega)
    clear K1 k0 f0 k3 d0 d1 d2 d3 e0 e1 e2 e3 hgr
    have K1 := Lib.hid hse
    clear hse
    generalize (((w2.setCell ⟨w.heap.size, 0, none⟩ (.int .i64 x.kind)).setCell ⟨w.heap.size, 1, none⟩ (.string x.text)).setCell ⟨w.heap.size, 2, none⟩ (.int .i64 x.cols)).setCell ⟨w.heap.size, 3, none⟩ (.slice A4 x.kids.length cap4) = w3 at *
    by_cases h2 : x.kind = 2
    · have qk : (x.kind == 2) = true := beq_iff_eq.2 h2
      have HOP := Lib.hid (show operB rs n = hasSy rs x.text.data.toList by unfold operB; rw [HU.out, decide_eq_true h2, Bool.true_and])
      clear h2
      refine region_list (by kernel_rfl) _ [.pointer (some ⟨w.heap.size, 1, none⟩), .string x.text, .pointer (some ⟨w.heap.size, 0, none⟩), .int .i64 x.kind, .bool true, .bool true, .pointer (some ⟨g, 0, none⟩), .pointer (some ⟨g, 0, none⟩), .pointer (some ⟨g, 1, none⟩), .map (some b), .pointer (some ⟨w.heap.size, 1, none⟩), .string x.text, .bool (hasSy rs x.text.data.toList), .bool (hasSy rs x.text.data.toList), .string x.text, .bool (hasSy rs x.text.data.toList)] [true, true, true, true, true, true, true, true, true, true, true, true, true, true, true, true] (fun wq => (Blk wq g 105 #[.slice A rs.length cap, .map (some b)] ∧ OwnMap wq b nb D) ∧ Blk wq w.heap.size 25 #[.int .i64 x.kind, .string x.text, .int .i64 x.cols, .slice A4 x.kids.length cap4] ∧ Below w.heap.size w wq) (by kernel_rfl) (by simp [fin, finOn, dstAt, List.range, List.range.loop, Act.put]; rfl) (by kernel_rfl) ⟨⟨HBX.out.drew, World.ownsMap.drew HMP.out⟩, K1.out.drew, below_drew HB.out⟩ ?_ ?_
      · refine ⟨fun wq hI => ?_, fun wq hI => ?_, fun wq hI => ?_, fun wq hI => ?_, fun wq hI => ?_, fun wq hI => ?_, fun wq hI => ?_, fun wq hI => ?_, fun wq hI => ?_, fun wq hI => ?_, fun wq hI => ?_, fun wq hI => ?_, fun wq hI => ?_, fun wq hI => ?_, fun wq hI => ?_, fun wq hI => ?_, trivial⟩
        · exact Gives.value (v := .pointer (some ⟨w.heap.size, 1, none⟩)) (w' := wq) (by simp [go_sem]) ⟨rfl, hI⟩
        · have cJ := hI.2.1.cell 1
          exact Gives.value (v := .string x.text) (w' := wq) (by simp [go_sem, cJ]) ⟨rfl, hI⟩
        · exact Gives.value (v := .pointer (some ⟨w.heap.size, 0, none⟩)) (w' := wq) (by simp [go_sem]) ⟨rfl, hI⟩
        · have cJ := hI.2.1.cell 0
          exact Gives.value (v := .int .i64 x.kind) (w' := wq) (by simp [go_sem, cJ]) ⟨rfl, hI⟩
        · skip
          exact Gives.value (v := .bool true) (w' := wq) (by simp [go_sem, qk]) ⟨rfl, hI⟩
        · exact Gives.value (v := .bool true) (w' := wq) (by kernel_rfl) ⟨rfl, hI⟩
        · exact Gives.value (v := .pointer (some ⟨g, 0, none⟩)) (w' := wq) (by kernel_rfl) ⟨rfl, hI⟩
        · exact Gives.value (v := .pointer (some ⟨g, 0, none⟩)) (w' := wq) (by simp [go_sem]) ⟨rfl, hI⟩
        · exact Gives.value (v := .pointer (some ⟨g, 1, none⟩)) (w' := wq) (by simp [go_sem]) ⟨rfl, hI⟩
        · have cJ := hI.1.1.cell 1
          exact Gives.value (v := .map (some b)) (w' := wq) (by simp [go_sem, cJ]) ⟨rfl, hI⟩
        · exact Gives.value (v := .pointer (some ⟨w.heap.size, 1, none⟩)) (w' := wq) (by simp [go_sem]) ⟨rfl, hI⟩
        · have cJ := hI.2.1.cell 1
          exact Gives.value (v := .string x.text) (w' := wq) (by simp [go_sem, cJ]) ⟨rfl, hI⟩
        · have hlk := look_sy hI.1.2 HSE.out (s := x.text) HTZ.out
          exact Gives.value (v := .bool (hasSy rs x.text.data.toList)) (w' := wq) (by simp [go_sem, hlk]) ⟨rfl, hI⟩
        · exact Gives.value (v := .bool (hasSy rs x.text.data.toList)) (w' := wq) (by kernel_rfl) ⟨rfl, hI⟩
        · exact Gives.value (v := .string x.text) (w' := wq) (by kernel_rfl) ⟨rfl, hI⟩
        · exact Gives.value (v := .bool (hasSy rs x.text.data.toList)) (w' := wq) (by kernel_rfl) ⟨rfl, hI⟩
      · intro wq hI
        have HBE := Lib.hid hI.2.2
        clear hI
        generalize wq = w9 at *
        go_wp2_with fail
        exact bodyPost_ret (v := .tuple #[.string x.text, .bool (hasSy rs x.text.data.toList)]) (by simp [results, Tryz.results124, go_sem]) rfl ⟨by rw [HOP.out, HU.out], HBE.out⟩
    · have qk : (x.kind == 2) = false := beq_eq_false_iff_ne.2 h2
      have HOP := Lib.hid (show operB rs n = false by unfold operB; rw [HU.out, decide_eq_false h2, Bool.false_and])
      clear h2
      refine region_list (by kernel_rfl) _ [.pointer (some ⟨w.heap.size, 1, none⟩), .string x.text, .pointer (some ⟨w.heap.size, 0, none⟩), .int .i64 x.kind, .bool false, .bool false, undef, undef, undef, undef, undef, undef, undef, .bool false, .string x.text, .bool false] [true, true, true, true, true, true, false, false, false, false, false, false, false, true, true, true] (fun wq => (Blk wq g 105 #[.slice A rs.length cap, .map (some b)] ∧ OwnMap wq b nb D) ∧ Blk wq w.heap.size 25 #[.int .i64 x.kind, .string x.text, .int .i64 x.cols, .slice A4 x.kids.length cap4] ∧ Below w.heap.size w wq) (by kernel_rfl) (by simp [fin, finOn, dstAt, List.range, List.range.loop, Act.put]; rfl) (by kernel_rfl) ⟨⟨HBX.out.drew, World.ownsMap.drew HMP.out⟩, K1.out.drew, below_drew HB.out⟩ ?_ ?_
      · refine ⟨fun wq hI => ?_, fun wq hI => ?_, fun wq hI => ?_, fun wq hI => ?_, fun wq hI => ?_, fun wq hI => ?_, rfl, rfl, rfl, rfl, rfl, rfl, rfl, fun wq hI => ?_, fun wq hI => ?_, fun wq hI => ?_, trivial⟩
        · exact Gives.value (v := .pointer (some ⟨w.heap.size, 1, none⟩)) (w' := wq) (by simp [go_sem]) ⟨rfl, hI⟩
        · have cJ := hI.2.1.cell 1
          exact Gives.value (v := .string x.text) (w' := wq) (by simp [go_sem, cJ]) ⟨rfl, hI⟩
        · exact Gives.value (v := .pointer (some ⟨w.heap.size, 0, none⟩)) (w' := wq) (by simp [go_sem]) ⟨rfl, hI⟩
        · have cJ := hI.2.1.cell 0
          exact Gives.value (v := .int .i64 x.kind) (w' := wq) (by simp [go_sem, cJ]) ⟨rfl, hI⟩
        · skip
          exact Gives.value (v := .bool false) (w' := wq) (by simp [go_sem, qk]) ⟨rfl, hI⟩
        · exact Gives.value (v := .bool false) (w' := wq) (by kernel_rfl) ⟨rfl, hI⟩
        · exact Gives.value (v := .bool false) (w' := wq) (by kernel_rfl) ⟨rfl, hI⟩
        · exact Gives.value (v := .string x.text) (w' := wq) (by kernel_rfl) ⟨rfl, hI⟩
        · exact Gives.value (v := .bool false) (w' := wq) (by kernel_rfl) ⟨rfl, hI⟩
      · intro wq hI
        have HBE := Lib.hid hI.2.2
        clear hI
        generalize wq = w9 at *
        go_wp2_with fail
        exact bodyPost_ret (v := .tuple #[.string x.text, .bool (false)]) (by simp [results, Tryz.results124, go_sem]) rfl ⟨by rw [HOP.out, HU.out], HBE.out⟩
  · have HU := Lib.hid (unsc_many HKS.out h1)
    have q1 : ((b0.kids.length : Int) == 1) = false := by rw [beq_eq_false_iff_ne]; omega
    clear h1
    go_upto_region 3 with (fail)
    clear q1 k3 d0 d1 d2 d3 hpos
    by_cases h2 : n.kind = 2
    · have qk : (n.kind == 2) = true := beq_iff_eq.2 h2
      have HOP := Lib.hid (show operB rs n = hasSy rs n.text.data.toList by unfold operB; rw [HU.out, decide_eq_true h2, Bool.true_and])
      clear h2
      refine region_list (by kernel_rfl) _ [.pointer (some ⟨w.heap.size, 1, none⟩), .string n.text, .pointer (some ⟨w.heap.size, 0, none⟩), .int .i64 n.kind, .bool true, .bool true, .pointer (some ⟨g, 0, none⟩), .pointer (some ⟨g, 0, none⟩), .pointer (some ⟨g, 1, none⟩), .map (some b), .pointer (some ⟨w.heap.size, 1, none⟩), .string n.text, .bool (hasSy rs n.text.data.toList), .bool (hasSy rs n.text.data.toList), .string n.text, .bool (hasSy rs n.text.data.toList)] [true, true, true, true, true, true, true, true, true, true, true, true, true, true, true, true] (fun wq => (Blk wq g 105 #[.slice A rs.length cap, .map (some b)] ∧ OwnMap wq b nb D) ∧ Blk wq w.heap.size 25 #[.int .i64 n.kind, .string n.text, .int .i64 n.cols, .slice (some ad) n.kids.length cap2] ∧ Below w.heap.size w wq) (by kernel_rfl) (by simp [fin, finOn, dstAt, List.range, List.range.loop, Act.put]; rfl) (by kernel_rfl) ⟨⟨HBX.out.drew, World.ownsMap.drew HMP.out⟩, K1.out.drew, below_drew HB.out⟩ ?_ ?_
      · refine ⟨fun wq hI => ?_, fun wq hI => ?_, fun wq hI => ?_, fun wq hI => ?_, fun wq hI => ?_, fun wq hI => ?_, fun wq hI => ?_, fun wq hI => ?_, fun wq hI => ?_, fun wq hI => ?_, fun wq hI => ?_, fun wq hI => ?_, fun wq hI => ?_, fun wq hI => ?_, fun wq hI => ?_, fun wq hI => ?_, trivial⟩
        · exact Gives.value (v := .pointer (some ⟨w.heap.size, 1, none⟩)) (w' := wq) (by simp [go_sem]) ⟨rfl, hI⟩
        · have cJ := hI.2.1.cell 1
          exact Gives.value (v := .string n.text) (w' := wq) (by simp [go_sem, cJ]) ⟨rfl, hI⟩
        · exact Gives.value (v := .pointer (some ⟨w.heap.size, 0, none⟩)) (w' := wq) (by simp [go_sem]) ⟨rfl, hI⟩
        · have cJ := hI.2.1.cell 0
          exact Gives.value (v := .int .i64 n.kind) (w' := wq) (by simp [go_sem, cJ]) ⟨rfl, hI⟩
        · skip
          exact Gives.value (v := .bool true) (w' := wq) (by simp [go_sem, qk]) ⟨rfl, hI⟩
        · exact Gives.value (v := .bool true) (w' := wq) (by kernel_rfl) ⟨rfl, hI⟩
        · exact Gives.value (v := .pointer (some ⟨g, 0, none⟩)) (w' := wq) (by kernel_rfl) ⟨rfl, hI⟩
        · exact Gives.value (v := .pointer (some ⟨g, 0, none⟩)) (w' := wq) (by simp [go_sem]) ⟨rfl, hI⟩
        · exact Gives.value (v := .pointer (some ⟨g, 1, none⟩)) (w' := wq) (by simp [go_sem]) ⟨rfl, hI⟩
        · have cJ := hI.1.1.cell 1
          exact Gives.value (v := .map (some b)) (w' := wq) (by simp [go_sem, cJ]) ⟨rfl, hI⟩
        · exact Gives.value (v := .pointer (some ⟨w.heap.size, 1, none⟩)) (w' := wq) (by simp [go_sem]) ⟨rfl, hI⟩
        · have cJ := hI.2.1.cell 1
          exact Gives.value (v := .string n.text) (w' := wq) (by simp [go_sem, cJ]) ⟨rfl, hI⟩
        · have hlk := look_sy hI.1.2 HSE.out (s := n.text) HTZ.out
          exact Gives.value (v := .bool (hasSy rs n.text.data.toList)) (w' := wq) (by simp [go_sem, hlk]) ⟨rfl, hI⟩
        · exact Gives.value (v := .bool (hasSy rs n.text.data.toList)) (w' := wq) (by kernel_rfl) ⟨rfl, hI⟩
        · exact Gives.value (v := .string n.text) (w' := wq) (by kernel_rfl) ⟨rfl, hI⟩
        · exact Gives.value (v := .bool (hasSy rs n.text.data.toList)) (w' := wq) (by kernel_rfl) ⟨rfl, hI⟩
      · intro wq hI
        have HBE := Lib.hid hI.2.2
        clear hI
        generalize wq = w9 at *
        go_wp2_with fail
        exact bodyPost_ret (v := .tuple #[.string n.text, .bool (hasSy rs n.text.data.toList)]) (by simp [results, Tryz.results124, go_sem]) rfl ⟨by rw [HOP.out, HU.out], HBE.out⟩
    · have qk : (n.kind == 2) = false := beq_eq_false_iff_ne.2 h2
      have HOP := Lib.hid (show operB rs n = false by unfold operB; rw [HU.out, decide_eq_false h2, Bool.false_and])
      clear h2
      refine region_list (by kernel_rfl) _ [.pointer (some ⟨w.heap.size, 1, none⟩), .string n.text, .pointer (some ⟨w.heap.size, 0, none⟩), .int .i64 n.kind, .bool false, .bool false, undef, undef, undef, undef, undef, undef, undef, .bool false, .string n.text, .bool false] [true, true, true, true, true, true, false, false, false, false, false, false, false, true, true, true] (fun wq => (Blk wq g 105 #[.slice A rs.length cap, .map (some b)] ∧ OwnMap wq b nb D) ∧ Blk wq w.heap.size 25 #[.int .i64 n.kind, .string n.text, .int .i64 n.cols, .slice (some ad) n.kids.length cap2] ∧ Below w.heap.size w wq) (by kernel_rfl) (by simp [fin, finOn, dstAt, List.range, List.range.loop, Act.put]; rfl) (by kernel_rfl) ⟨⟨HBX.out.drew, World.ownsMap.drew HMP.out⟩, K1.out.drew, below_drew HB.out⟩ ?_ ?_
      · refine ⟨fun wq hI => ?_, fun wq hI => ?_, fun wq hI => ?_, fun wq hI => ?_, fun wq hI => ?_, fun wq hI => ?_, rfl, rfl, rfl, rfl, rfl, rfl, rfl, fun wq hI => ?_, fun wq hI => ?_, fun wq hI => ?_, trivial⟩
        · exact Gives.value (v := .pointer (some ⟨w.heap.size, 1, none⟩)) (w' := wq) (by simp [go_sem]) ⟨rfl, hI⟩
        · have cJ := hI.2.1.cell 1
          exact Gives.value (v := .string n.text) (w' := wq) (by simp [go_sem, cJ]) ⟨rfl, hI⟩
        · exact Gives.value (v := .pointer (some ⟨w.heap.size, 0, none⟩)) (w' := wq) (by simp [go_sem]) ⟨rfl, hI⟩
        · have cJ := hI.2.1.cell 0
          exact Gives.value (v := .int .i64 n.kind) (w' := wq) (by simp [go_sem, cJ]) ⟨rfl, hI⟩
        · skip
          exact Gives.value (v := .bool false) (w' := wq) (by simp [go_sem, qk]) ⟨rfl, hI⟩
        · exact Gives.value (v := .bool false) (w' := wq) (by kernel_rfl) ⟨rfl, hI⟩
        · exact Gives.value (v := .bool false) (w' := wq) (by kernel_rfl) ⟨rfl, hI⟩
        · exact Gives.value (v := .string n.text) (w' := wq) (by kernel_rfl) ⟨rfl, hI⟩
        · exact Gives.value (v := .bool false) (w' := wq) (by kernel_rfl) ⟨rfl, hI⟩
      · intro wq hI
        have HBE := Lib.hid hI.2.2
        clear hI
        generalize wq = w9 at *
        go_wp2_with fail
        exact bodyPost_ret (v := .tuple #[.string n.text, .bool (false)]) (by simp [results, Tryz.results124, go_sem]) rfl ⟨by rw [HOP.out, HU.out], HBE.out⟩
end Go.Proofs.YthpioplpfmlgcaaGreatDoor.El
