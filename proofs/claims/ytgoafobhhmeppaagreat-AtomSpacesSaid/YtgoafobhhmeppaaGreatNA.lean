/- Class of the program. -/
import Derived.Test.YtgoafobhhmeppaaGreatNF
import Derived.Test.YtgoafobhhmeppaaGreatC2
namespace Go.Proofs.YtgoafobhhmeppaaGreat
open Go.RowKit
/-- a node that a pointer leads to -/
structure PtrAt (w : World) (p : Addr) (t : Tre) (A : Option Addr) (cap : Nat) : Prop where
  lt : p.block < w.heap.size
  kind : w.cell? p = some (.int .i64 t.kind)
  text : w.cell? ⟨p.block, p.off + 1, none⟩ = some (.string t.text)
  cols : w.cell? ⟨p.block, p.off + 2, none⟩ = some (.int .i64 t.cols)
  kids : w.cell? ⟨p.block, p.off + 3, none⟩ = some (.slice A t.kids.length cap)
  size : t.text.size ≤ 9223372036854775807
  len : t.kids.length ≤ cap
  capl : cap ≤ 9223372036854775807
  down : KidsAt w A t.kids
theorem PtrAt.keep {w w' : World} {p : Addr} {t : Tre} {A : Option Addr} {cap : Nat} (h : PtrAt w p t A cap) (hb : Below w.heap.size w w') : PtrAt w' p t A cap :=
  ⟨Nat.lt_of_lt_of_le h.lt hb.size, (hb.cell h.lt).trans h.kind, (hb.cell (p := ⟨p.block, p.off + 1, none⟩) h.lt).trans h.text, (hb.cell (p := ⟨p.block, p.off + 2, none⟩) h.lt).trans h.cols, (hb.cell (p := ⟨p.block, p.off + 3, none⟩) h.lt).trans h.kids, h.size, h.len, h.capl, h.down.keep hb⟩
theorem PtrAt.drew {w : World} {p : Addr} {t : Tre} {A : Option Addr} {cap : Nat} (h : PtrAt w p t A cap) : PtrAt w.drew p t A cap := h.keep (below_drew (Below.refl _ _))
theorem KidsAt.ptr {w : World} {A : Option Addr} {ts : List Tre} (h : KidsAt w A ts) {i : Nat} {t : Tre} (hi : ts[i]? = some t) : ∃ ad A2 cap2, A = some ad ∧ PtrAt w (ad.add (i * 4)) t A2 cap2 := by
  obtain ⟨ad, A2, cap2, h1, h2, h3, h4, h5, h6, h7, d0, d1, d2, d3⟩ := h.at_ hi
  exact ⟨ad, A2, cap2, h1, ⟨by rw [add_blk]; exact h2, d0, d1, d2, d3, h3, h4, h5, h6⟩⟩
abbrev ownV (gd gf : Nat) : Value := .func (.func 57) #[] #[.pointer (some ⟨gd, 0, none⟩), .pointer (some ⟨gf, 0, none⟩)]
set_option maxRecDepth 100000 in
set_option maxHeartbeats 2000000 in
theorem class1_any (A : Option Addr) (cap : Nat) (es : List Ent) (hn : es.length ≤ 1000000) (gd gf : Nat) : ∀ (m : Nat) (t : Tre) (p : Addr) (A2 : Option Addr) (cap2 : Nat) (w : World), countT t < m → PtrAt w p t A2 cap2 → EntsAt w A es → Blk w gd 28 #[.slice A es.length cap] → Blk w gf 103 #[ownV gd gf] → Calls Tryz.prog 57 #[.pointer (some p), .pointer (some ⟨gd, 0, none⟩), .pointer (some ⟨gf, 0, none⟩)] w fun e w' => e = .returned (.int .i64 (classT es t)) ∧ Below w.heap.size w w' := by
  intro m
  induction m with
  | zero => intro t p A2 cap2 w h; omega
  | succ m ih =>
    intro t p A2 cap2 w hm hP hE hD hF
    have IH := Lib.hid ih
    clear ih
    have HP := Lib.hid hP
    have HE := Lib.hid hE
    have HD := Lib.hid hD
    have HF := Lib.hid hF
    have HM := Lib.hid hm
    obtain ⟨k, s, cols, ks⟩ := t
    have c0 := hP.kind
    have c3 := hP.kids
    have hl := hP.len
    have hc := hP.capl
    dsimp only [Tre.kind, Tre.text, Tre.cols, Tre.kids] at c0 c3 hl hc
    clear hP hE hD hF hm
    by_cases h2 : k = 2
    · subst h2
      have HQ := Lib.hid (class_sym (es := es) (s := s) (c := cols) (ks := ks))
      go_enter Tryz.func57, Tryz.ntmps57
      go_upto_region 3 with (fail)
      clear c0 c3
      refine region_list (by kernel_rfl) _ [.slice A es.length cap, .pointer (some p), .pointer (some p), .pointer (some ⟨p.block, p.off + 1, none⟩), .string s, (entE es s).v, .int .i64 (entE es s).cls, .int .i64 (entE es s).cls] [true, true, true, true, true, true, true, true] (fun wq => Hid (PtrAt wq p (.mk 2 s cols ks) A2 cap2) ∧ Hid (EntsAt wq A es) ∧ Hid (Blk wq gd 28 #[.slice A es.length cap]) ∧ Hid (Blk wq gf 103 #[ownV gd gf]) ∧ Hid (Below w.heap.size w wq)) (by kernel_rfl) (by simp [fin, finOn, dstAt, List.range, List.range.loop, Act.put]; rfl) (by kernel_rfl) ⟨HP.out.drew, HE.out.drew, HD.out.drew, HF.out.drew, below_drew (Below.refl _ _)⟩ ?_ ?_
      · refine ⟨fun wq hI => ?_, fun wq hI => ?_, fun wq hI => ?_, fun wq hI => ?_, fun wq hI => ?_, fun wq hI => ?_, fun wq hI => ?_, fun wq hI => ?_, trivial⟩
        · have cJ := hI.2.2.1.out.cell 0
          exact Gives.value (v := .slice A es.length cap) (w' := wq) (by simp [execOp, Act.eval, go_sem, cJ]) ⟨rfl, hI⟩
        · exact Gives.value (v := .pointer (some p)) (w' := wq) (by kernel_rfl) ⟨rfl, hI⟩
        · exact Gives.value (v := .pointer (some p)) (w' := wq) (by simp [execOp, Act.eval, go_sem]) ⟨rfl, hI⟩
        · exact Gives.value (v := .pointer (some ⟨p.block, p.off + 1, none⟩)) (w' := wq) (by simp [execOp, Act.eval, go_sem]) ⟨rfl, hI⟩
        · have cJ : wq.cell? ⟨p.block, p.off + 1, none⟩ = some (.string s) := hI.1.out.text
          exact Gives.value (v := .string s) (w' := wq) (by simp [execOp, Act.eval, go_sem, cJ]) ⟨rfl, hI⟩
        · refine Gives.call (f := 58) (args := #[.slice A es.length cap, .string s]) (w' := wq) (by kernel_rfl) ((ofind_any A cap es s wq hI.2.1.out hn).mono ?_)
          rintro e wa ⟨rfl, hb5⟩
          exact ⟨_, rfl, rfl, hI.1.out.keep hb5, hI.2.1.out.keep hb5, keep hb5 hI.2.2.1.out, keep hb5 hI.2.2.2.1.out, hI.2.2.2.2.out.trans (hb5.mono hI.2.2.2.2.out.size)⟩
        · have cJ := field_cls (entE es s) wq
          exact Gives.value (v := .int .i64 (entE es s).cls) (w' := wq) (by simp [execOp, Act.eval, go_sem, cJ]) ⟨rfl, hI⟩
        · exact Gives.value (v := .int .i64 (entE es s).cls) (w' := wq) (by kernel_rfl) ⟨rfl, hI⟩
      · intro wq hI
        have HB := hI.2.2.2.2
        clear hI
        go_wp2_with fail
        go_ret
        exact ⟨ret_int HQ.out.symm, HB.out⟩
    · by_cases h7 : k = 7 ∨ k = 8 ∨ k = 9
      · clear h2
        cases ks with
        | nil =>
          have HQ := Lib.hid (class_none (es := es) (s := s) (c := cols) h7)
          rcases h7 with rfl | rfl | rfl
          all_goals
            go_enter Tryz.func57, Tryz.ntmps57
            go_wp2_with fail
            go_ret
            exact ⟨ret_int HQ.out.symm, Below.refl _ _⟩
        | cons t ts =>
          obtain ⟨ad, A3, cap3, rfl, hPk⟩ := HP.out.down.ptr (i := 0) (t := t) rfl
          rw [add_zero] at hPk
          rw [show (t :: ts).length = ts.length + 1 from rfl] at *
          have d3 := hPk.kids
          have HPK := Lib.hid hPk
          have LP := Lib.hid HP.out.lt
          have LA := Lib.hid hPk.lt
          clear hPk
          by_cases h1 : t.kids.length = 1
          · obtain ⟨k0, s0, c0', kk⟩ := t
            obtain ⟨u, rfl⟩ : ∃ u, kk = [u] := List.length_eq_one_iff.1 h1
            have HQ := Lib.hid (class_kid (es := es) (s := s) (c := cols) (k0 := k0) (s0 := s0) (c0 := c0') (u := u) (ts := ts) h7)
            obtain ⟨ad4, A4, cap4, rfl, hP4⟩ := HPK.out.down.ptr (i := 0) (t := u) rfl
            rw [add_zero] at hP4
            have HP4 := Lib.hid hP4
            have d3 : w.cell? ⟨ad.block, ad.off + 3, none⟩ = some (.slice (some ad4) 1 cap3) := d3
            have hl3 : 1 ≤ cap3 := HPK.out.len
            have hc3 := HPK.out.capl
            have HCU : Hid (countT u < m) := by
              have := HM.out
              show _ < _
              simp only [countT, countL] at this
              omega
            have C3 := Lib.hid c3
            have D3 := Lib.hid d3
            clear hP4 h1
            rcases h7 with rfl | rfl | rfl
            all_goals
              go_enter Tryz.func57, Tryz.ntmps57
              go_upto_region 8 with (fail)
              refine region_list (by kernel_rfl) _ [ownV gd gf, .pointer (some p), .pointer (some p), .pointer (some ⟨p.block, p.off + 3, none⟩), .slice (some ad) (ts.length + 1) cap2, .pointer (some ad), .pointer (some ⟨ad.block, ad.off + 3, none⟩), .slice (some ad4) 1 cap3, .pointer (some ad4), .int .i64 (classT es u), .int .i64 (classT es u)] [true, true, true, true, true, true, true, true, true, true, true] (fun wq => Hid (wq.cell? ⟨p.block, p.off + 3, none⟩ = some (.slice (some ad) (ts.length + 1) cap2)) ∧ Hid (wq.cell? ⟨ad.block, ad.off + 3, none⟩ = some (.slice (some ad4) 1 cap3)) ∧ Hid (PtrAt wq ad4 u A4 cap4) ∧ Hid (EntsAt wq A es) ∧ Hid (Blk wq gd 28 #[.slice A es.length cap]) ∧ Hid (Blk wq gf 103 #[ownV gd gf]) ∧ Hid (Below w.heap.size w wq)) (by kernel_rfl) (by simp [fin, finOn, dstAt, List.range, List.range.loop, Act.put]; rfl) (by kernel_rfl) ⟨C3, D3, HP4.out.drew, HE.out.drew, HD.out.drew, HF.out.drew, below_drew (Below.refl _ _)⟩ ?_ ?_
              · refine ⟨fun wq hI => ?_, fun wq hI => ?_, fun wq hI => ?_, fun wq hI => ?_, fun wq hI => ?_, fun wq hI => ?_, fun wq hI => ?_, fun wq hI => ?_, fun wq hI => ?_, fun wq hI => ?_, fun wq hI => ?_, trivial⟩
                · have cJ := hI.2.2.2.2.2.1.out.cell 0
                  exact Gives.value (v := ownV gd gf) (w' := wq) (by simp [execOp, Act.eval, go_sem, cJ]) ⟨rfl, hI⟩
                · exact Gives.value (v := .pointer (some p)) (w' := wq) (by kernel_rfl) ⟨rfl, hI⟩
                · exact Gives.value (v := .pointer (some p)) (w' := wq) (by simp [execOp, Act.eval, go_sem]) ⟨rfl, hI⟩
                · exact Gives.value (v := .pointer (some ⟨p.block, p.off + 3, none⟩)) (w' := wq) (by simp [execOp, Act.eval, go_sem]) ⟨rfl, hI⟩
                · have cJ := hI.1.out
                  exact Gives.value (v := .slice (some ad) (ts.length + 1) cap2) (w' := wq) (by simp [execOp, Act.eval, go_sem, cJ]) ⟨rfl, hI⟩
                · have hcap := hc
                  exact Gives.value (v := .pointer (some ad)) (w' := wq) (by simp [execOp, Act.eval, go_sem]; try omega) ⟨rfl, hI⟩
                · exact Gives.value (v := .pointer (some ⟨ad.block, ad.off + 3, none⟩)) (w' := wq) (by simp [execOp, Act.eval, go_sem]) ⟨rfl, hI⟩
                · have cJ := hI.2.1.out
                  exact Gives.value (v := .slice (some ad4) 1 cap3) (w' := wq) (by simp [execOp, Act.eval, go_sem, cJ]) ⟨rfl, hI⟩
                · have hcap := hc
                  exact Gives.value (v := .pointer (some ad4)) (w' := wq) (by simp [execOp, Act.eval, go_sem]; try omega) ⟨rfl, hI⟩
                · refine Gives.call (f := 57) (args := #[.pointer (some ad4), .pointer (some ⟨gd, 0, none⟩), .pointer (some ⟨gf, 0, none⟩)]) (w' := wq) (by kernel_rfl) ((IH.out u ad4 A4 cap4 wq HCU.out hI.2.2.1.out hI.2.2.2.1.out hI.2.2.2.2.1.out hI.2.2.2.2.2.1.out).mono ?_)
                  rintro e wa ⟨rfl, hb5⟩
                  have hlw := hI.2.2.2.2.2.2.out.size
                  exact ⟨_, rfl, rfl, (hb5.cell (p := ⟨p.block, p.off + 3, none⟩) (Nat.lt_of_lt_of_le LP.out hlw)).trans hI.1.out, (hb5.cell (p := ⟨ad.block, ad.off + 3, none⟩) (Nat.lt_of_lt_of_le LA.out hlw)).trans hI.2.1.out, hI.2.2.1.out.keep hb5, hI.2.2.2.1.out.keep hb5, keep hb5 hI.2.2.2.2.1.out, keep hb5 hI.2.2.2.2.2.1.out, hI.2.2.2.2.2.2.out.trans (hb5.mono hlw)⟩
                · exact Gives.value (v := .int .i64 (classT es u)) (w' := wq) (by kernel_rfl) ⟨rfl, hI⟩
              · intro wq hI
                have HB := hI.2.2.2.2.2.2
                clear hI
                go_wp2_with fail
                go_ret
                exact ⟨ret_int HQ.out.symm, HB.out⟩
          · have HQ := Lib.hid (class_many (es := es) (s := s) (c := cols) (ts := ts) h7 h1)
            have hq : ((t.kids.length : Int) == 1) = false := by rw [beq_eq_false_iff_ne]; omega
            clear h1
            rcases h7 with rfl | rfl | rfl
            all_goals
              go_enter Tryz.func57, Tryz.ntmps57
              go_wp2_with fail
              go_ret
              exact ⟨ret_int HQ.out.symm, Below.refl _ _⟩
      · by_cases h5 : k = 5 ∨ k = 11 ∨ k = 12
        · clear h2 h7
          have HQ := Lib.hid (class_inner (es := es) (s := s) (c := cols) (ks := ks) h5)
          rcases h5 with rfl | rfl | rfl
          all_goals
            go_enter Tryz.func57, Tryz.ntmps57
            go_wp2_with fail
            go_ret
            exact ⟨ret_int HQ.out.symm, Below.refl _ _⟩
        · have HQ := Lib.hid (class_ord (es := es) (s := s) (c := cols) (ks := ks) h2 h7 h5)
          have q2 : (k == 2) = false := beq_eq_false_iff_ne.2 h2
          have q7 : (k == 7) = false := beq_eq_false_iff_ne.2 (fun e => h7 (.inl e))
          have q8 : (k == 8) = false := beq_eq_false_iff_ne.2 (fun e => h7 (.inr (.inl e)))
          have q9 : (k == 9) = false := beq_eq_false_iff_ne.2 (fun e => h7 (.inr (.inr e)))
          have q5 : (k == 5) = false := beq_eq_false_iff_ne.2 (fun e => h5 (.inl e))
          have q11 : (k == 11) = false := beq_eq_false_iff_ne.2 (fun e => h5 (.inr (.inl e)))
          have q12 : (k == 12) = false := beq_eq_false_iff_ne.2 (fun e => h5 (.inr (.inr e)))
          clear h2 h7 h5
          go_enter Tryz.func57, Tryz.ntmps57
          go_wp2_with fail
          go_ret
          exact ⟨ret_int HQ.out.symm, Below.refl _ _⟩
end Go.Proofs.YtgoafobhhmeppaaGreat
