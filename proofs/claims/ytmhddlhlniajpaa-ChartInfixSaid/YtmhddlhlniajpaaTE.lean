/- A cell of the table. -/
import Derived.Test.YtmhddlhlniajpaaTD
namespace Go.Proofs.Ytmhddlhlniajpaa
open Go.RowKit
theorem MapS.stay {w w' : World} {B B' bm : Nat} {rs : List Rul} {ts : List ByteArray} {i : Nat} {done : List App} {D : DataW Unit} {hd : Nat → Value} {bss : Nat → List Nat} (h : MapS w B bm rs ts i done D hd bss) {v : Value} {bs : List Nat} (ho : OwnP w B' v bs) (hg : w.grownBy w' v.ownBlock) (hf : ∀ r b, (hd r).ownBlock = some b → v.ownBlock ≠ some b) : MapS w' B bm rs ts i done D hd bss := by
  refine ⟨h.own.kept hg fun e => ?_, h.at_, fun r => ?_, fun r => (h.shs r).grow hg fun r' hr' => (ho.row r' hr').2.2, h.dis⟩
  · obtain ⟨cs, hc⟩ := (ho.row bm e.symm).2.2
    exact map_no_cells h.own hc
  · refine World.ownsRow.kept (h.rows r) hg ?_
    cases hv : (hd r).ownBlock with
    | none => exact .inl rfl
    | some b => exact .inr fun e => hf r b hv e.symm
theorem MapS.made {w : World} {rs : List Rul} {ts : List ByteArray} {i : Nat} : MapS (w.alloc (.map #[] 0)) w.heap.size w.heap.size rs ts i [] (.map []) (fun _ => .slice none 0 0) (fun _ => []) :=
  ⟨World.ownsMap_made _ _ _ _, fun r => rfl, fun r => OwnP.nil _ _, fun r => Shs.nil, fun r r' _ b h => by cases h⟩
def InvE (w4 w6 : World) (g gm gt gi bm : Nat) (rs : List Rul) (ts : List ByteArray) (i j : Nat) : List Bool → Unit → World → Prop
  | [false], _, wq => Below w6.heap.size w6 wq
  | [true], _, wq => CellS w4 g gm gt gi bm rs ts i (appsR rs ts i j) wq
  | _, _, _ => False
theorem base_one {ts : List ByteArray} {i j : Nat} (h : j = i + 1 ∧ tokB ts i opndL = true) : baseR ts i j = [.mk (-1) i []] := by unfold baseR; rw [if_pos h]
theorem base_no {ts : List ByteArray} {i j : Nat} (h : ¬ (j = i + 1 ∧ tokB ts i opndL = true)) : baseR ts i j = [] := by unfold baseR; rw [if_neg h]
theorem range_flat {α : Type} (f : Nat → List α) (r : Nat) : (List.range (r + 1)).flatMap f = (List.range r).flatMap f ++ f r := by
  rw [List.range_succ, List.flatMap_append]
  simp
theorem got_all_len {rs : List Rul} {ts : List ByteArray} {i r : Nat} {l : List App} : ((List.range r).flatMap fun n => gotR rs ts i n l).length ≤ 2 * r := by
  have := flat_le (f := fun n => gotR rs ts i n l) (b := 2) (l := List.range r) fun n _ => got_len
  rw [List.length_range] at this
  omega
theorem ptrs_app {w : World} {B : Nat} {v : Value} {bs cs : List Nat} (h : w.ownsRow B 57 1 v (bs.length + cs.length) (bs.map ptrV ++ cs.map ptrV)) : OwnP w B v (bs ++ cs) := by
  unfold OwnP
  rw [List.length_append, List.map_append]
  exact h
theorem ptr_one {bs : List Nat} : ∀ u ∈ bs.map ptrV, u.oneCell' = true := by
  intro u hu
  obtain ⟨b, _, rfl⟩ := List.mem_map.1 hu
  rfl
set_option maxRecDepth 100000 in
set_option maxHeartbeats 4000000 in
theorem cell_any (g : Nat) (F : Fin) (rs : List Rul) (ts : List ByteArray) (gc : Nat) (rows : Nat → Nat) (fill : Nat → Nat → Bool) (i j : Nat) (w : World) (hv : validB rs = true) (hT : TabAt w g F rs ts gc rows fill) (hij : i < j) (hj : j ≤ ts.length) (hf : ∀ p q, i ≤ p → p < q → q ≤ j → q - p < j - i → fill p q = true) (hn : rs.length ≤ 1000000) (hm : ts.length ≤ 1000000) :
    Calls Try.prog 49 #[ptrV g, .int .i64 i, .int .i64 j] w (ReadsP rs (cellR rs ts i j) w) := by
  obtain ⟨i0, hi, hz0, hz1, hz2⟩ := info_parts info_ptr
  obtain ⟨R, cR, T, cT, I, cI, P, cP, Q, cQ⟩ := F
  have HQ := Lib.hid (cell_got hv hij hj)
  have hmf : ∀ (fn : Fn) (first cap : Array Value) (w : World), (Instr.makeFunc fn first cap).run Try.prog w = .ok (.func fn first cap) w := fun _ _ _ _ => rfl
  have hmm := @run_makeMap Try.prog
  have hba := (bel_alloc w (.cells #[ptrV g] 53)).trans ((bel_alloc (w.alloc (.cells #[ptrV g] 53)) (.cells #[.int .i64 i] 3)).mono (by simp))
  have HT := Lib.hid (hT.keep hba)
  have HB := Lib.hid hba
  have K2 := Lib.hid ((Blk.new w 53 #[ptrV g]).alloc (.cells #[.int .i64 i] 3))
  have K3 := Blk.new (w.alloc (.cells #[ptrV g] 53)) 3 #[.int .i64 i]
  rw [World.size_alloc] at K3
  have K3 := Lib.hid K3
  have HFI := Lib.hid hf
  clear hba hT hf hv
  have hjn : j ≤ ts.length := hj
  obtain ⟨s, hs⟩ : ∃ s, ts[i]? = some s := ⟨_, List.getElem?_eq_getElem (by omega)⟩
  have HTB := Lib.hid (show tokB ts i opndL = (s.toList == opndL) by unfold tokB; rw [hs])
  obtain ⟨_, adT, hAT, hTl, ctk⟩ := HT.out.fin.toks i s hs
  dsimp only at hAT
  subst hAT
  clear hs
  go_enter Try.func49, Try.ntmps49
  go_upto_region 2 with (fail)
  generalize (w.alloc (.cells #[ptrV g] 53)).alloc (.cells #[.int .i64 i] 3) = w1 at *
  have hOP : (⟨#[35]⟩ : ByteArray).toList = opndL := by rw [ByteArray.toList_eq]; rfl
  go_cut [24] (fun b wc => b = .bool (!(baseR ts i j).isEmpty) ∧ ∃ n, wc = w1.drewN n)
  case first =>
    by_cases hji : j = i + 1
    · have hjd : ((j : Int) == (i : Int) + 1) = true := by rw [beq_iff_eq]; omega
      have ct1 := HT.out.blk.cell 1
      have ci := K3.out.cell 0
      have ctv := K2.out.cell 0
      have hin : (i : Int) < (ts.length : Int) := by omega
      dsimp only at ct1
      have HBQ := Lib.hid (show (!(baseR ts i j).isEmpty) = (s.toList == opndL) by
        cases hq : (s.toList == opndL)
        · rw [base_no (fun h => by rw [HTB.out, hq] at h; exact absurd h.2 (by simp))]; rfl
        · rw [base_one ⟨hji, by rw [HTB.out]; exact hq⟩]; rfl)
      clear hji hOP
      go_quiet (fail)
      go_wp2_with fail
      go_meet
      exact ⟨by rw [HBQ.out]; rfl, ⟨_, rfl⟩⟩
    · have hjd : ((j : Int) == (i : Int) + 1) = false := by rw [beq_eq_false_iff_ne]; omega
      have ci := K3.out.cell 0
      have HBQ := Lib.hid (show (!(baseR ts i j).isEmpty) = false by rw [base_no (fun h => hji h.1)]; rfl)
      clear hji hOP
      go_quiet (fail)
      go_wp2_with fail
      go_meet
      exact ⟨by rw [HBQ.out], ⟨_, rfl⟩⟩
  case rest =>
    clear ctk hTl hOP
    obtain ⟨rfl, nq, hw⟩ := hcut
    subst hw
    have HT := Lib.hid (HT.out.keep (below_drewN (Below.refl _ _) nq))
    have HB := Lib.hid (below_drewN HB.out nq)
    have K2 := Lib.hid (Blk.drewN K2.out nq)
    have K3 := Lib.hid (Blk.drewN K3.out nq)
    generalize w1.drewN nq = w2 at *
    go_upto_if 24 with (fail)
    go_cut [7] (fun v wc => ∃ bs, Hid (OwnP wc w.heap.size v bs) ∧ Hid (Shs rs wc bs (baseR ts i j)) ∧ Hid (Below w2.heap.size w2 wc))
    case first =>
      by_cases hb : j = i + 1 ∧ tokB ts i opndL = true
      · have HBQ := Lib.hid (base_one hb)
        rw [HBQ.out]
        have ci := K3.out.cell 0
        clear hb
        have hbx := (bel_alloc w2 (.cells (shC rs (-1) i (.pointer none) (.pointer none)) 90)).trans ((bel_alloc (w2.alloc (.cells (shC rs (-1) i (.pointer none) (.pointer none)) 90)) (.cells #[ptrV w2.heap.size] 57)).mono (by simp))
        have KS := Lib.hid ((Blk.new w2 90 (shC rs (-1) i (.pointer none) (.pointer none))).alloc (.cells #[ptrV w2.heap.size] 57))
        have hown : World.ownsRow _ w.heap.size 57 1 (.slice none 0 0) 0 [] := OwnP.nil ((w2.alloc (.cells (shC rs (-1) i (.pointer none) (.pointer none)) 90)).alloc (.cells #[ptrV w2.heap.size] 57)) w.heap.size
        have cn := cells_new (w2.alloc (.cells (shC rs (-1) i (.pointer none) (.pointer none)) 90)) [ptrV w2.heap.size] 57
        rw [World.size_alloc] at cn
        have HSZ := Lib.hid HB.out.size
        have HBX := Lib.hid hbx
        clear hbx
        rw [show shC rs (-1) i (.pointer none) (.pointer none) = #[.int .i64 (-1), .int .i64 i, .int .i64 101, .pointer none, .pointer none] from rfl] at cn hown
        go_wp2_with (at_builtin; refine wpList_append_own_at _ rfl (.tmp 25) (.tmp 29) 55 rfl w.heap.size 57 i0 (.pointer none) 1 8 Try.underlying55 hi hz0 hz1 hz2 rfl (by decide) _ _ _ rfl hown ⟨w2.heap.size + 1, 0, none⟩ 1 1 [ptrV w2.heap.size] rfl rfl cn ?c2a ?c3a ?c4a ?c5a ?_)
        case c2a => intro u hu; simp at hu; subst hu; rfl
        case c3a => unfold maxLen; omega
        case c4a => omega
        case c5a => have := HSZ.out; simp; omega
        intro v' w4 hown' hgrow _ hloc
        have M0 := Lib.hid (ptrs_snoc (bs := []) (b := w2.heap.size) rfl hown')
        have M1 := Lib.hid (Shs.snoc (rs := rs) Shs.nil (ShAt.leaf _ _ _ (KS.out.grown hgrow (by simp [Value.ownBlock]))))
        have M2 := Lib.hid (HBX.out.grown hgrow HBX.out.size (fun k hk => by simp [Value.ownBlock] at hk))
        clear hown hown' hgrow hloc cn KS ci
        go_wp2_with fail
        go_meet
        exact ⟨_, M0, by rw [HBQ.out]; exact M1, M2⟩
      · have HBQ := Lib.hid (base_no hb)
        rw [HBQ.out]
        clear hb
        go_wp2_with fail
        go_meet
        exact ⟨[], OwnP.nil _ _, by rw [HBQ.out]; exact Shs.nil, Below.refl _ _⟩
    case rest =>
      obtain ⟨bs, HO, HS, hb⟩ := hcut
      have HT := Lib.hid (HT.out.keep hb.out)
      have HB := Lib.hid (HB.out.trans (hb.out.mono HB.out.size))
      have K2 := Lib.hid (keep hb.out K2.out)
      have K3 := Lib.hid (keep hb.out K3.out)
      generalize wc = w4 at *
      clear hb
      have HO4 := HO
      go_upto_region 5 with (fail)
      have hbx := (bel_alloc w4 (.map #[] 0)).trans ((bel_alloc (w4.alloc (.map #[] 0)) (.cells #[.map (some w4.heap.size)] 108)).mono (by simp))
      have K1 := Blk.new (w4.alloc (.map #[] 0)) 108 #[.map (some w4.heap.size)]
      rw [World.size_alloc] at K1
      have HC0 := Lib.hid (show CellS w4 g (w4.heap.size + 1) w.heap.size (w.heap.size + 1) w4.heap.size rs ts i [] _ from ⟨K1, keep hbx K2.out, keep hbx K3.out, hbx, ⟨_, _, _, MapS.made.keep ((bel_alloc (w4.alloc (.map #[] 0)) (.cells #[.map (some w4.heap.size)] 108)))⟩, Nat.le_refl _⟩)
      have HT6 := Lib.hid (HT.out.keep hbx)
      clear hbx K1 hmm
      generalize (w4.alloc (.map #[] 0)).alloc (.cells _ 108) = w6 at *
      refine region_ghost (X := Unit) (by kernel_rfl) _ (fun gx => [.pointer (some ⟨g, 0, none⟩), .pointer (some ⟨g, 0, none⟩), .pointer (some ⟨g, 0, none⟩), .agg #[.slice R rs.length cR, .slice (some adT) ts.length cT, .slice I ts.length cI, .slice P ts.length cP, .slice Q ts.length cQ, .int .i64 (findI rs 4 [])], .int .i64 i, .int .i64 j, .func (.func 73) #[] #[.pointer (some ⟨w4.heap.size + 1, 0, none⟩), .pointer (some ⟨w.heap.size, 0, none⟩), .pointer (some ⟨w.heap.size + 1, 0, none⟩)], undef]) [true, true, true, true, true, true, true, true] [7] (InvE w4 w6 g (w4.heap.size + 1) w.heap.size (w.heap.size + 1) w4.heap.size rs ts i j) () (by kernel_rfl) (fun gx => by simp [fin, finOn, dstAt, List.range, List.range.loop, Act.put]; rfl) (fun _ => by kernel_rfl) (by kernel_rfl) (below_drew (Below.refl _ _)) ?_ ?_
      · refine ⟨fun L gx wq hL hb ha hI => ?_, fun L gx wq hL hb ha hI => ?_, fun L gx wq hL hb ha hI => ?_, fun L gx wq hL hb ha hI => ?_, fun L gx wq hL hb ha hI => ?_, fun L gx wq hL hb ha hI => ?_, fun L gx wq hL hb ha hI => ?_, fun L gx wq hL hb ha hI => ?_, trivial⟩
        · have e7 : L 7 = false := ha 7 (by kernel_rfl)
          have hI9 := hI
          simp only [List.map, e7] at hI9
          have cJ := (HC0.out.keep hI9).vt.cell 0
          exact Gives.plain (v := .pointer (some ⟨g, 0, none⟩)) (w' := wq) (by simp [go_sem, cJ]) rfl hI
        · exact Gives.plain (v := .pointer (some ⟨g, 0, none⟩)) (w' := wq) (by simp [go_sem]) rfl hI
        · exact Gives.plain (v := .pointer (some ⟨g, 0, none⟩)) (w' := wq) (by simp [go_sem]) rfl hI
        · have e7 : L 7 = false := ha 7 (by kernel_rfl)
          have hI9 := hI
          simp only [List.map, e7] at hI9
          have cJ := fun k => (HT6.out.keep hI9).blk.cell k
          exact Gives.plain (v := .agg #[.slice R rs.length cR, .slice (some adT) ts.length cT, .slice I ts.length cI, .slice P ts.length cP, .slice Q ts.length cQ, .int .i64 (findI rs 4 [])]) (w' := wq) (by simp [go_sem, cJ]) rfl hI
        · have e7 : L 7 = false := ha 7 (by kernel_rfl)
          have hI9 := hI
          simp only [List.map, e7] at hI9
          have cJ := (HC0.out.keep hI9).vi.cell 0
          exact Gives.plain (v := .int .i64 i) (w' := wq) (by simp [go_sem, cJ]) rfl hI
        · exact Gives.plain (v := .int .i64 j) (w' := wq) (by kernel_rfl) rfl hI
        · exact Gives.plain (v := .func (.func 73) #[] #[.pointer (some ⟨w4.heap.size + 1, 0, none⟩), .pointer (some ⟨w.heap.size, 0, none⟩), .pointer (some ⟨w.heap.size + 1, 0, none⟩)]) (w' := wq) (by simp [go_sem]) rfl hI
        · have e7 : L 7 = false := hL
          simp only [List.map, e7] at hI ⊢
          refine Gives.call (f := 72) (args := #[.agg #[.slice R rs.length cR, .slice (some adT) ts.length cT, .slice I ts.length cI, .slice P ts.length cP, .slice Q ts.length cQ, .int .i64 (findI rs 4 [])], .int .i64 i, .int .i64 j, .func (.func 73) #[] #[.pointer (some ⟨w4.heap.size + 1, 0, none⟩), .pointer (some ⟨w.heap.size, 0, none⟩), .pointer (some ⟨w.heap.size + 1, 0, none⟩)]]) (w' := wq) (by kernel_rfl) ((apps_any 73 #[ptrV (w4.heap.size + 1), ptrV w.heap.size, ptrV (w.heap.size + 1)] ⟨R, cR, (some adT), cT, I, cI, P, cP, Q, cQ⟩ rs ts i j (CellS w4 g (w4.heap.size + 1) w.heap.size (w.heap.size + 1) w4.heap.size rs ts i) wq hij hj hm (fun l w hc => HT.out.fin.keep hc.below) (fun l w w' hc hb => hc.keep hb) (visit_cell g _ rs ts gc rows fill i j _ _ _ _ w4 HT.out hij hj HFI.out hn hm) (HC0.out.keep hI) (fun _ _ => by rfl)).mono ?_)
          rintro e wa ⟨rfl, hc⟩
          exact ⟨_, rfl, (), rfl, KeepsV.same, hc⟩
      · intro gx wq hI
        have HC : Hid (CellS w4 g (w4.heap.size + 1) w.heap.size (w.heap.size + 1) w4.heap.size rs ts i (appsR rs ts i j) wq) := hI
        clear hI HC0 HT6
        obtain ⟨k1, k2, k3, hb, ⟨D, hd, bss, hM⟩, _⟩ := HC.out
        have K1 := Lib.hid k1
        have K2 := Lib.hid k2
        have HM := Lib.hid hM
        have HW := Lib.hid (HB.out.trans (hb.mono HB.out.size))
        have HO := Lib.hid (HO.out.keep hb)
        have HS := Lib.hid (HS.out.keep hb)
        have HT := Lib.hid (HT.out.keep hb)
        have HFR := Lib.hid (show ∀ r b, (hd r).ownBlock = some b → u7.ownBlock ≠ some b from fun r b h1 h2 => by
          have := ((hM.rows r).row b h1).1
          have := (HO4.out.row b h2).2.1
          omega)
        clear k1 k2 k3 hb hM HC K3 HO4 hmf
        have ctv := K2.out.cell 0
        have ct0 := HT.out.blk.cell 0
        dsimp only at ct0
        go_wp2_with fail
        clear ctv ct0
        go_loopw [7, 46] (fun v n wr => ∃ (r : Nat) (bs : List Nat), r ≤ rs.length ∧ n = .int .i64 r ∧ Hid (OwnP wr w.heap.size v bs) ∧ Hid (Shs rs wr bs (baseR ts i j ++ (List.range r).flatMap fun n => gotR rs ts i n (appsR rs ts i j))) ∧ Hid (MapS wr w4.heap.size w4.heap.size rs ts i (appsR rs ts i j) D hd bss) ∧ Hid (Blk wr (w4.heap.size + 1) 108 #[.map (some w4.heap.size)]) ∧ Hid (Below w.heap.size w wr) ∧ Hid (∀ r b, (hd r).ownBlock = some b → v.ownBlock ≠ some b)) (fun _ n _ => rs.length - (intOf n).toNat)
        case atStart => exact ⟨0, bs, by omega, rfl, HO, by rw [show (List.range 0).flatMap (fun n => gotR rs ts i n (appsR rs ts i j)) = [] from rfl, List.append_nil]; exact HS, HM, K1, HW, HFR⟩
        case round =>
          clear HO HS HM K1 HW HFR HT
          obtain ⟨r, cs, hr, rfl, HO, HS, HM, K1, HW, HFR⟩ := hrel
          by_cases hlt : r < rs.length
          · have HRF := Lib.hid (range_flat (fun n => gotR rs ts i n (appsR rs ts i j)) r)
            have HKEY := Lib.hid (Maps.keyOf_int_mk (P := Try.prog) (k := 3) Try.underlying3 (q := .i64) (a := (r : Int)) (WalkArith.wf_i64 (by omega)))
            obtain ⟨v, ps, hrun, hv⟩ := HM.out.own.lookup lawI Try.underlying108 (zeroS _) (show hdrE (.slice none 0 0) = some (hdrD (.slice none 0 0), []) from rfl) HKEY.out
            obtain rfl := hdr_inj (HM.out.rows r).ok (by rw [← HM.out.at_ r]; exact hv)
            obtain ⟨A5, cap5, e5, hcl5, _, _⟩ := (HM.out.rows r).form
            rw [e5] at hrun
            have cm := K1.out.cell 0
            have hrd := Reads.of_own (show wr.ownsRow w4.heap.size 57 1 (.slice A5 (bss r).length cap5) (bss r).length ((bss r).map ptrV) from by rw [← e5]; exact HM.out.rows r)
            have hcs : cs.length ≤ 2 * r + 1 := by
              rw [HS.out.1, List.length_append]
              have := got_all_len (rs := rs) (ts := ts) (i := i) (r := r) (l := appsR rs ts i j)
              have : (baseR ts i j).length ≤ 1 := by unfold baseR; split <;> simp
              omega
            have hbr : (bss r).length ≤ 2 := by rw [(HM.out.shs r).1]; exact got_len
            obtain ⟨A6, cap6, e6, hcl6, hcap6, _⟩ := HO.out.form
            subst e6
            have hown : World.ownsRow wr w.heap.size 57 1 (.slice A6 cs.length cap6) cs.length (cs.map ptrV) := HO.out
            have HSZ := Lib.hid HW.out.size
            clear hv e5
            go_wp2_with (at_builtin; refine wpList_append_any _ rfl (.tmp 49) (.tmp 52) 55 rfl w.heap.size 57 i0 (.pointer none) 1 8 Try.underlying55 hi hz0 hz1 hz2 rfl (by decide) _ _ _ rfl hown wr.heap.size A5 (bss r).length cap5 ((bss r).map ptrV) rfl hrd ptr_one ?c3a ?c4a ?c5a ?_)
            case c3a => unfold maxLen; omega
            case c4a => omega
            case c5a => exact HSZ.out
            intro v' w5 hown' hgrow hloc
            have M0 := Lib.hid (ptrs_app hown')
            have M1 := Lib.hid (HM.out.stay HO.out hgrow HFR.out)
            have hrow := fun r hr => (HO.out.row r hr).2.2
            have M2 := Lib.hid ((HS.out.grow hgrow hrow).append (M1.out.shs r))
            have M3 := Lib.hid (K1.out.stay hgrow hrow (by decide))
            have M4 := Lib.hid (show ∀ r b, (hd r).ownBlock = some b → v'.ownBlock ≠ some b from fun r b h1 => by
              rcases hloc with h | h
              · rw [h]; exact HFR.out r b h1
              · rw [h]
                intro h2
                have := ((HM.out.rows r).row b h1).2.1
                have := Option.some.inj h2
                omega)
            have M5 := Lib.hid (HW.out.grown hgrow HW.out.size (fun k hk => (HO.out.row k hk).1))
            rw [List.append_assoc, ← HRF.out] at M2
            clear hown hown' hgrow hloc hrow hrd hrun cm HO HS HM K1 HW HFR hcs hbr
            go_wp2_with fail
            go_roundw
            case rel => exact ⟨r + 1, _, by omega, by go_num, M0, M2, M1, M3, M5, M4⟩
            case measure => simp [intOf]; omega
          · obtain rfl : r = rs.length := by omega
            go_wp2_with fail
            go_ret
            exact ⟨_, _, rfl, HO.out, by rw [HQ.out]; exact HS.out, HW.out⟩
end Go.Proofs.Ytmhddlhlniajpaa
