/- The parts of the spoken text of a term: the reference. -/
import Derived.Test.YtpokelkneblafaaGreatDoorRS
import Derived.Test.YtpokelkneblafaaGreatDoorPC
namespace Go.Proofs.YtpokelkneblafaaGreatDoor
open Go.RowKit
/-- a list under way: what was there ahead of the call has not turned -/
structure LSt (w1 w : World) (v : Value) (ls : List (List UInt8)) : Prop where
  bel : Below w1.heap.size w1 w
  own : OwnS w w1.heap.size v ls
/-- while a word and the parts of an argument are appended -/
def InvO (w1 : World) (v : Value) (ls : List (List UInt8)) (wd : List UInt8) (us : List (List UInt8)) : List Bool → Nat × Value × Value × Value → World → Prop
  | [b1, b2, b5, b6], gx, wq => Below w1.heap.size w1 wq ∧ (b2 = false → OwnS wq w1.heap.size v ls) ∧ (b1 = true → b2 = false → Blk wq gx.1 9 #[strV wd]) ∧ (b2 = true → b6 = false → OwnS wq w1.heap.size gx.2.1 (ls ++ [wd])) ∧
      (b5 = true → b6 = false → OwnS wq w1.heap.size gx.2.2.1 us ∧ (b2 = false → ∀ b, v.ownBlock = some b → gx.2.2.1.ownBlock ≠ some b)) ∧ (b6 = true → OwnS wq w1.heap.size gx.2.2.2 (ls ++ [wd] ++ us))
  | _, _, _ => False
theorem InvO.keep {w1 : World} {v : Value} {ls : List (List UInt8)} {wd : List UInt8} {us : List (List UInt8)} {b1 b2 b5 b6 : Bool} {gx : Nat × Value × Value × Value} {wq w' : World} (h : InvO w1 v ls wd us [b1, b2, b5, b6] gx wq) (hb : Below wq.heap.size wq w') : InvO w1 v ls wd us [b1, b2, b5, b6] gx w' := by
  obtain ⟨h1, h2, h3, h4, h5, h6⟩ := h
  exact ⟨h1.trans (hb.mono h1.size), fun p => (h2 p).keep hb, fun p q => _root_.Go.Proofs.YtpokelkneblafaaGreatDoor.keep hb (h3 p q), fun p q => (h4 p q).keep hb, fun p q => ⟨(h5 p q).1.keep hb, (h5 p q).2⟩, fun p => (h6 p).keep hb⟩
/-- while the parts of a text are laid -/
def InvX (w1 : World) (ts : List (List UInt8)) : List Bool → Nat → World → Prop
  | [b6], g, wq => Below w1.heap.size w1 wq ∧ (b6 = true → OwnS wq w1.heap.size (.slice (some ⟨g, 0, none⟩) 3 3) ts)
  | _, _, _ => False
mutual
theorem prt_len : ∀ t : Trm, (prtM t).length + 1 ≤ 9 * cntM t
  | .mk k a v f ts => by
    rw [prtM, cntM]
    have h := prtL_len ts true
    split
    · simp; omega
    · split
      · have := spoken_two (l := a.data.toList); omega
      · split
        · simp; omega
        · have h2 := spoken_two (l := v.data.toList)
          have h3 : (if k = 5 then wOver :: spokenL v.data.toList else []).length ≤ 3 := by
            split
            · rw [List.length_cons]; omega
            · simp
          have h4 : (if f.data.toList.isEmpty = true then [] else [wAs, f.data.toList]).length ≤ 2 := by split <;> simp
          rw [List.length_append, List.length_append, List.length_append, List.length_append]
          simp only [List.length_cons, List.length_nil]
          omega
theorem prtL_len : ∀ (ts : List Trm) (b : Bool), (prtL b ts).length ≤ 9 * cntL ts
  | [], b => by rw [prtL]; simp
  | t :: ts, b => by
    rw [prtL, cntL, List.length_cons, List.length_append]
    have h1 := prt_len t
    have h2 := prtL_len ts false
    omega
end
theorem own_two {a v f : List UInt8} {n : Nat} (h : ownM 2 a v f n = true) : a.length ≤ 1000 := by
  unfold ownM at h
  rw [if_neg (by decide), if_pos rfl, Bool.and_eq_true] at h
  have := (id_named h.2).2.2
  omega
theorem own_three {a v f : List UInt8} {n : Nat} (h : ownM 3 a v f n = true) : a.length ≤ 1000 := by
  unfold ownM at h
  rw [if_neg (by decide), if_neg (by decide), if_pos rfl] at h
  simp only [Bool.and_eq_true, decide_eq_true_eq] at h
  omega
theorem own_five {a v f : List UInt8} {n : Nat} (h : ownM 5 a v f n = true) : v.length ≤ 1000 := by
  unfold ownM at h
  rw [if_neg (by decide), if_neg (by decide), if_neg (by decide), if_neg (by decide), if_pos rfl] at h
  simp only [Bool.and_eq_true, decide_eq_true_eq] at h
  have := (id_named h.2.2.1).2.2
  omega
theorem len_sz (s : ByteArray) : s.data.toList.length = s.size := by simp
theorem str_raw (s : ByteArray) : strV s.data.toList = .string s := by unfold strV; rw [data_bys]
set_option maxRecDepth 100000 in
set_option maxHeartbeats 4000000 in
theorem rparts_num (a v f : ByteArray) (ts : List Trm) (c : Array Value) (w : World) (hM : MAt w (.mk 1 a v f ts) c) : Calls Tryz.prog 41 #[.agg c] w (StrsP (prtM (.mk 1 a v f ts)) w) := by
  obtain ⟨A, cap, hcc, ha, hv, hf, hn, hc, hA⟩ := hM.form
  subst hcc
  dsimp only [Trm.kind, Trm.nam, Trm.vr, Trm.form, Trm.args] at ha hv hf hn hc hA ⊢
  have hba := bel_alloc w (.cells (trmC 1 a v A ts.length cap f) 25)
  have K0 := Lib.hid (Blk.new w 25 (trmC 1 a v A ts.length cap f))
  have HB := Lib.hid hba
  have HA := Lib.hid (hA.keep hba)
  clear hba hM hA
  rw [show prtM (.mk 1 a v f ts) = [a.data.toList] by rw [prtM, if_pos rfl]]
  go_enter Tryz.func41, Tryz.ntmps41
  go_upto_region 1 with (fail)
  generalize w.alloc (.cells #[.int .i64 1, .string a, .string v, .slice A ts.length cap, .string f] 25) = w1 at *
  have c0 := K0.out.cell 0
  have c1 := K0.out.cell 1
  go_wp2_with fail
  go_ret
  exact ⟨_, rfl, OwnS.new w1 w.heap.size HB.out.size [a.data.toList] 1 rfl (by omega) _ (by rw [List.map_cons, str_raw]; rfl), HB.out.alloc HB.out.size _⟩
set_option maxRecDepth 100000 in
set_option maxHeartbeats 4000000 in
theorem rparts_var (a v f : ByteArray) (ts : List Trm) (c : Array Value) (w : World) (hsz : a.size ≤ 1000) (hM : MAt w (.mk 2 a v f ts) c) : Calls Tryz.prog 41 #[.agg c] w (StrsP (prtM (.mk 2 a v f ts)) w) := by
  obtain ⟨A, cap, hcc, ha, hv, hf, hn, hc, hA⟩ := hM.form
  subst hcc
  dsimp only [Trm.kind, Trm.nam, Trm.vr, Trm.form, Trm.args] at ha hv hf hn hc hA ⊢
  have hba := bel_alloc w (.cells (trmC 2 a v A ts.length cap f) 25)
  have K0 := Lib.hid (Blk.new w 25 (trmC 2 a v A ts.length cap f))
  have HB := Lib.hid hba
  have HA := Lib.hid (hA.keep hba)
  clear hba hM hA
  rw [show prtM (.mk 2 a v f ts) = spokenL a.data.toList by rw [prtM, if_neg (by decide), if_pos rfl]]
  have HC := Lib.hid (fun w => rspoken_any a w (by omega))
  generalize spokenL a.data.toList = us at *
  go_enter Tryz.func41, Tryz.ntmps41
  go_upto_region 1 with (fail)
  generalize w.alloc (.cells #[.int .i64 2, .string a, .string v, .slice A ts.length cap, .string f] 25) = w1 at *
  have c0 := K0.out.cell 0
  have c1 := K0.out.cell 1
  go_wp2_with fail
  refine (HC.out w1).mono ?_
  rintro e w2 ⟨u, rfl, ho, hb⟩
  have HO := Lib.hid (ho.more HB.out.size)
  replace HB := Lib.hid (HB.out.trans (hb.mono HB.out.size))
  clear ho hb c0 c1
  go_wp2_with fail
  go_ret
  exact ⟨_, rfl, HO.out, HB.out⟩
set_option maxRecDepth 100000 in
set_option maxHeartbeats 4000000 in
theorem rparts_text (a v f : ByteArray) (ts : List Trm) (c : Array Value) (w : World) (hsz : a.size ≤ 1000) (hM : MAt w (.mk 3 a v f ts) c) : Calls Tryz.prog 41 #[.agg c] w (StrsP (prtM (.mk 3 a v f ts)) w) := by
  obtain ⟨A, cap, hcc, ha, hv, hf, hn, hc, hA⟩ := hM.form
  subst hcc
  dsimp only [Trm.kind, Trm.nam, Trm.vr, Trm.form, Trm.args] at ha hv hf hn hc hA ⊢
  have hba := bel_alloc w (.cells (trmC 3 a v A ts.length cap f) 25)
  have K0 := Lib.hid (Blk.new w 25 (trmC 3 a v A ts.length cap f))
  have HB := Lib.hid hba
  have HA := Lib.hid (hA.keep hba)
  clear hba hM hA
  rw [show prtM (.mk 3 a v f ts) = [wText, Lib.decDigits a.size, a.data.toList] by rw [prtM, if_neg (by decide), if_neg (by decide), if_pos rfl]]
  have HC := Lib.hid (fun w => rdec_any a.size w (by omega))
  generalize Lib.decDigits a.size = dd at *
  go_enter Tryz.func41, Tryz.ntmps41
  go_upto_region 1 with (fail)
  generalize w.alloc (.cells #[.int .i64 3, .string a, .string v, .slice A ts.length cap, .string f] 25) = w1 at *
  have c0 := K0.out.cell 0
  go_upto_region 7 with (fail)
  refine region_ghost (X := Nat) (by kernel_rfl) _ (fun gx => [.pointer (some ⟨w.heap.size, 1, none⟩), .string a, .int .i64 (a.size : Nat), .string (bys dd), .pointer (some ⟨w.heap.size, 1, none⟩), .string a, .slice (some ⟨gx, 0, none⟩) 3 3, .slice (some ⟨gx, 0, none⟩) 3 3]) [true, true, true, true, true, true, true, true] [6] (InvX w1 [wText, dd, a.data.toList]) 0 (by kernel_rfl) (fun gx => by simp [fin, finOn, dstAt, List.range, List.range.loop, Act.put]; rfl) (fun _ => by kernel_rfl) (by kernel_rfl) ⟨below_drew (Below.refl _ _), fun h => by cases h⟩ ?_ ?_
  · refine ⟨fun L gx wq hL hb ha hI => ?_, fun L gx wq hL hb ha hI => ?_, fun L gx wq hL hb ha hI => ?_, fun L gx wq hL hb ha hI => ?_, fun L gx wq hL hb ha hI => ?_, fun L gx wq hL hb ha hI => ?_, fun L gx wq hL hb ha hI => ?_, fun L gx wq hL hb ha hI => ?_, trivial⟩
    · exact Gives.plain (v := .pointer (some ⟨w.heap.size, 1, none⟩)) (w' := wq) (by simp [go_sem]) rfl hI
    · have cJ := (keep hI.1 K0.out).cell 1
      exact Gives.plain (v := .string a) (w' := wq) (by simp [go_sem, cJ]) rfl hI
    · exact Gives.plain (v := .int .i64 (a.size : Nat)) (w' := wq) (by simp [go_sem]) rfl hI
    · have e6 : L 6 = false := ha 6 (by kernel_rfl)
      simp only [List.map, e6] at hI ⊢
      refine Gives.call (f := 60) (args := #[.int .i64 (a.size : Nat)]) (w' := wq) (by kernel_rfl) ((HC.out wq).mono ?_)
      rintro e wz ⟨rfl, hbz⟩
      exact ⟨_, rfl, gx, rfl, (KeepsV.of_same ⟨.inr (.inr rfl), .inr (.inr rfl), .inr (.inr rfl), .inl rfl, .inr (.inr rfl), .inr (.inr rfl), (by first | exact .inr (.inr rfl) | exact .inr (.inl (by kernel_rfl))), (by first | exact .inr (.inr rfl) | exact .inr (.inl (by kernel_rfl))), trivial⟩), hI.1.trans (hbz.mono hI.1.size), fun h => by cases h⟩
    · exact Gives.plain (v := .pointer (some ⟨w.heap.size, 1, none⟩)) (w' := wq) (by simp [go_sem]) rfl hI
    · have cJ := (keep hI.1 K0.out).cell 1
      exact Gives.plain (v := .string a) (w' := wq) (by simp [go_sem, cJ]) rfl hI
    · have e6 : L 6 = false := hL
      simp only [List.map, e6] at hI ⊢
      exact Gives.value (v := .slice (some ⟨wq.heap.size, 0, none⟩) 3 3) (w' := wq.alloc (.cells #[.string ⟨#[116, 101, 120, 116]⟩, .string (bys dd), .string a] 9)) (by simp [go_sem]) ⟨wq.heap.size, rfl, (KeepsV.of_same ⟨.inr (.inr rfl), .inr (.inr rfl), .inr (.inr rfl), .inr (.inr rfl), .inr (.inr rfl), .inr (.inr rfl), .inl rfl, (by first | exact .inr (.inr rfl) | exact .inr (.inl (by kernel_rfl))), trivial⟩), hI.1.alloc hI.1.size _, fun _ => OwnS.new wq w1.heap.size hI.1.size [wText, dd, a.data.toList] 3 rfl (by omega) _ (by rw [List.map_cons, List.map_cons, List.map_cons, str_raw]; rfl)⟩
    · exact Gives.plain (v := .slice (some ⟨gx, 0, none⟩) 3 3) (w' := wq) (by kernel_rfl) rfl hI
  · intro gx wq hI
    have h1 := Lib.hid hI.1
    have h2 := Lib.hid (hI.2 rfl)
    clear hI
    go_wp2_with fail
    go_ret
    exact ⟨_, rfl, h2.out.more HB.out.size, HB.out.trans (h1.out.mono HB.out.size)⟩
set_option maxRecDepth 100000 in
set_option maxHeartbeats 16000000 in
theorem rparts_any : ∀ (m : Nat) (t : Trm) (c : Array Value) (w : World), cntM t ≤ m → m ≤ 1000 → formM t = true → MAt w t c → Calls Tryz.prog 41 #[.agg c] w (StrsP (prtM t) w) := by
  intro m
  induction m with
  | zero => intro t c w h; have := cnt_pos t; omega
  | succ m ih =>
  intro t c w hm hm2 hfo hM
  obtain ⟨k, a, v, f, ts⟩ := t
  rw [formM, Bool.and_eq_true] at hfo
  obtain ⟨hown, hfo⟩ := hfo
  by_cases h1 : k = 1
  · subst h1; exact rparts_num a v f ts c w hM
  by_cases h2 : k = 2
  · subst h2; exact rparts_var a v f ts c w (by have := own_two hown; rwa [len_sz] at this) hM
  by_cases h3 : k = 3
  · subst h3; exact rparts_text a v f ts c w (by have := own_three hown; rwa [len_sz] at this) hM
  have HV := Lib.hid (fun (h : k = 5) => show v.size ≤ 1000 by subst h; have := own_five hown; rwa [len_sz] at this)
  have IH := Lib.hid ih
  clear ih hown
  obtain ⟨s0, hs, hy0, hy1, hy2⟩ := info_parts info_str
  have HPL := Lib.hid (prt_len (.mk k a v f ts))
  have HE := Lib.hid (show prtM (.mk k a v f ts) = [wThe, a.data.toList] ++ ((if k = 5 then wOver :: spokenL v.data.toList else []) ++ ((if f.data.toList.isEmpty then [] else [wAs, f.data.toList]) ++ (prtL true ts ++ [wEnd]))) by rw [prtM, if_neg h1, if_neg h2, if_neg h3])
  have q1 : (k == 1) = false := beq_eq_false_iff_ne.2 h1
  have q2 : (k == 2) = false := beq_eq_false_iff_ne.2 h2
  have q3 : (k == 3) = false := beq_eq_false_iff_ne.2 h3
  have HO5 := Lib.hid (show (k == 5) = true → (if k = 5 then wOver :: spokenL v.data.toList else []) = [wOver] ++ spokenL v.data.toList from fun h => if_pos (beq_iff_eq.1 h))
  have HO0 := Lib.hid (show (k == 5) = false → (if k = 5 then wOver :: spokenL v.data.toList else []) = [] from fun h => if_neg (beq_eq_false_iff_ne.1 h))
  have HF0 := Lib.hid (show f.toList.isEmpty = true → (if f.data.toList.isEmpty then [] else [wAs, f.data.toList]) = [] from fun h => by rw [ByteArray.toList_eq] at h; rw [h]; rfl)
  have HF1 := Lib.hid (show f.toList.isEmpty = false → (if f.data.toList.isEmpty then [] else [wAs, f.data.toList]) = [wAs, f.data.toList] from fun h => by rw [ByteArray.toList_eq] at h; rw [h]; rfl)
  have HOL := Lib.hid (show (if k = 5 then wOver :: spokenL v.data.toList else []).length ≤ 3 by
    have h2 := spoken_two (l := v.data.toList)
    split
    · rw [List.length_cons]; omega
    · simp)
  have HFL := Lib.hid (show (if f.data.toList.isEmpty = true then [] else [wAs, f.data.toList]).length ≤ 2 by split <;> simp)
  have HZ := Lib.hid (show cntL ts ≤ m ∧ m + 1 ≤ 1000 by rw [cntM] at hm; omega)
  have HFM := Lib.hid hfo
  generalize (if k = 5 then wOver :: spokenL v.data.toList else []) = O at *
  generalize (if f.data.toList.isEmpty = true then [] else [wAs, f.data.toList]) = FF at *
  have HSP := Lib.hid (fun (h : k = 5) w => rspoken_any v w (by have := HV.out h; omega))
  have HSL := Lib.hid (spoken_two (l := v.data.toList))
  rw [HE.out]
  generalize spokenL v.data.toList = us at *
  clear h1 h2 h3 hm hm2 hfo
  obtain ⟨A, cap, hcc, ha, hv, hf, hn, hc, hA⟩ := hM.form
  subst hcc
  dsimp only [Trm.kind, Trm.nam, Trm.vr, Trm.form, Trm.args] at ha hv hf hn hc hA ⊢
  have hba := bel_alloc w (.cells (trmC k a v A ts.length cap f) 25)
  have K0 := Lib.hid (Blk.new w 25 (trmC k a v A ts.length cap f))
  have HB := Lib.hid hba
  have HA := Lib.hid (hA.keep hba)
  clear hba hM hA
  go_enter Tryz.func41, Tryz.ntmps41
  go_upto_region 1 with (fail)
  generalize w.alloc (.cells #[.int .i64 k, .string a, .string v, .slice A ts.length cap, .string f] 25) = w1 at *
  have c0 := K0.out.cell 0
  have c1 := K0.out.cell 1
  go_upto_region 9 with (fail)
  have HS := Lib.hid (LSt.mk (v := .slice (some ⟨w1.heap.size, 0, none⟩) 2 2) (ls := [wThe, a.data.toList]) (bel_alloc w1 (.cells #[.string ⟨#[116, 104, 101]⟩, .string a] 9)) (OwnS.new w1 w1.heap.size (Nat.le_refl _) [wThe, a.data.toList] 2 rfl (by omega) _ (by rw [List.map_cons, List.map_cons, str_raw]; rfl)))
  clear c0 c1
  generalize w1.alloc (.cells #[.string ⟨#[116, 104, 101]⟩, .string a] 9) = w2 at *
  generalize (Value.slice (some ⟨w1.heap.size, 0, none⟩) 2 2) = v3 at *
  have HL2 := Lib.hid (show ([wThe, a.data.toList] : List (List UInt8)).length = 2 from rfl)
  have HAS := Lib.hid (str_raw a)
  generalize hq : ([wThe, a.data.toList] : List (List UInt8)) = L0 at *
  have HQ0 := Lib.hid hq
  clear hq
  have c0 := (keep HS.out.bel K0.out).cell 0
  go_upto_if 32 with (fail)
  go_cut [3] (fun vv wc => Hid (LSt w1 wc vv (L0 ++ O)))
  case first =>
    cases q5 : (k == 5)
    · have HEO := Lib.hid (HO0.out q5)
      go_wp2_with fail
      go_meet
      rw [HEO.out, List.append_nil]
      exact HS
    · have HEO := Lib.hid (HO5.out q5)
      have HSQ := Lib.hid (HSP.out (beq_iff_eq.1 q5))
      have HBD := Lib.hid (show L0.length + 1 + us.length ≤ 100 by have := HL2.out; have := HSL.out; omega)
      clear q5
      go_upto_region 10 with (fail)
      clear c0
      refine region_ghostE (X := Nat × Value × Value × Value) (by kernel_rfl) [true, false, false, false, false, false, false, false] _ (fun gx => [v3, .slice (some ⟨gx.1, 0, none⟩) 1 1, gx.2.1, .pointer (some ⟨w.heap.size, 2, none⟩), .string v, gx.2.2.1, gx.2.2.2, gx.2.2.2]) [true, true, true, true, true, true, true, true] [1, 2, 5, 6] (InvO w1 v3 L0 (wOver) (us)) (0, .nilFunc, .nilFunc, .nilFunc) (by kernel_rfl) (fun gx => by simp [fin, finOn, dstAt, List.range, List.range.loop, Act.put]; rfl) (fun _ => by kernel_rfl) (by kernel_rfl) ⟨below_drew HS.out.bel, (fun _ => HS.out.own.keep (below_drew (Below.refl _ _))), (fun h => by cases h), (fun h => by cases h), (fun h => by cases h), fun h => by cases h⟩ ?_ ?_
      · refine ⟨fun L gx wq hL hb ha hI => ?_, fun L gx wq hL hb ha hI => ?_, fun L gx wq hL hb ha hI => ?_, fun L gx wq hL hb ha hI => ?_, fun L gx wq hL hb ha hI => ?_, fun L gx wq hL hb ha hI => ?_, fun L gx wq hL hb ha hI => ?_, fun L gx wq hL hb ha hI => ?_, trivial⟩
        · exact Gives.plain (v := v3) (w' := wq) (by kernel_rfl) rfl hI
        · have e1 : L 1 = false := hL
          have e2 : L 2 = false := ha 2 (by kernel_rfl)
          have e6 : L 6 = false := ha 6 (by kernel_rfl)
          cases e5 : L 5
          all_goals
            simp only [List.map, e1, e2, e5, e6] at hI ⊢
            have hK := hI.keep (bel_alloc wq (.cells #[strV (wOver)] 9))
            exact Gives.value (v := .slice (some ⟨wq.heap.size, 0, none⟩) 1 1) (w' := wq.alloc (.cells #[strV (wOver)] 9)) (by simp [go_sem, evAct] <;> rfl) ⟨(wq.heap.size, gx.2), rfl, (KeepsV.of_same ⟨.inr (.inr rfl), .inl rfl, (by first | exact .inr (.inr rfl) | exact .inr (.inl (by kernel_rfl))), .inr (.inr rfl), .inr (.inr rfl), (by first | exact .inr (.inr rfl) | exact .inr (.inl (by kernel_rfl))), (by first | exact .inr (.inr rfl) | exact .inr (.inl (by kernel_rfl))), (by first | exact .inr (.inr rfl) | exact .inr (.inl (by kernel_rfl))), trivial⟩), hK.1, hK.2.1, (fun _ _ => Blk.new _ _ _), hK.2.2.2.1, hK.2.2.2.2.1, hK.2.2.2.2.2⟩
        · have e1 : L 1 = true := hb 1 (by kernel_rfl)
          have e2 : L 2 = false := hL
          have e6 : L 6 = false := ha 6 (by kernel_rfl)
          have hbd := HBD.out
          cases e5 : L 5
          all_goals
            simp only [List.map, e1, e2, e5, e6] at hI ⊢
            obtain ⟨h1, h2, h3, h4, h5, h6⟩ := hI
            exact gives_append (.tmp 33) (.tmp 34) 61 rfl w1.heap.size 9 s0 (.string ⟨#[]⟩) 1 16 Tryz.underlying61 hs hy0 hy1 hy2 rfl (by decide) v3 _ _ rfl (h2 rfl) wq.heap.size (some ⟨gx.1, 0, none⟩) 1 1 [strV (wOver)] rfl (reads_cell (h3 rfl rfl)) (strs_one (ts := [wOver])) (by unfold maxLen; omega) (by omega) h1.size (fun v' w' g2 g3 g4 => ⟨(gx.1, v', gx.2.2), rfl, (KeepsV.of_same ⟨.inr (.inr rfl), (by first | exact .inr (.inr rfl) | exact .inr (.inl (by kernel_rfl))), .inl rfl, .inr (.inr rfl), .inr (.inr rfl), (by first | exact .inr (.inr rfl) | exact .inr (.inl (by kernel_rfl))), (by first | exact .inr (.inr rfl) | exact .inr (.inl (by kernel_rfl))), (by first | exact .inr (.inr rfl) | exact .inr (.inl (by kernel_rfl))), trivial⟩), h1.grown g3 h1.size (fun b hb => ((h2 rfl).lt b hb).1), (fun h => by cases h), (fun _ h => by cases h), (fun _ _ => OwnS.snoc rfl rfl g2), (fun p q => ⟨(h5 p q).1.grown g3 (fun b hb e => (h5 p q).2 rfl b e hb), fun h => by cases h⟩), fun h => by cases h⟩)
        · exact Gives.plain (v := .pointer (some ⟨w.heap.size, 2, none⟩)) (w' := wq) (by simp [go_sem, evAct]) rfl hI
        · have cJ := (keep hI.1 K0.out).cell 2
          exact Gives.plain (v := .string v) (w' := wq) (by simp [go_sem, evAct, cJ]) rfl hI
        · have e5 : L 5 = false := hL
          have e6 : L 6 = false := ha 6 (by kernel_rfl)
          have hbe := hI.1
          refine Gives.call (f := 59) (args := #[.string v]) (w' := wq) (by kernel_rfl) ((HSQ.out wq).mono ?_)
          rintro e wz ⟨u, rfl, ho, hbz⟩
          cases e1 : L 1 <;> cases e2 : L 2
          all_goals
            simp only [List.map, e1, e2, e5, e6] at hI ⊢
            have hK := hI.keep hbz
            exact ⟨_, rfl, (gx.1, gx.2.1, u, gx.2.2.2), rfl, (KeepsV.of_same ⟨.inr (.inr rfl), (by first | exact .inr (.inr rfl) | exact .inr (.inl (by kernel_rfl))), (by first | exact .inr (.inr rfl) | exact .inr (.inl (by kernel_rfl))), .inr (.inr rfl), .inr (.inr rfl), .inl rfl, (by first | exact .inr (.inr rfl) | exact .inr (.inl (by kernel_rfl))), (by first | exact .inr (.inr rfl) | exact .inr (.inl (by kernel_rfl))), trivial⟩), hK.1, hK.2.1, hK.2.2.1, hK.2.2.2.1, (fun _ _ => ⟨ho.more hbe.size, fun p b hv hu => by have q1 := (ho.lt b hu).1; have q2 := ((hI.2.1 p).lt b hv).2; omega⟩), fun h => by cases h⟩
        · have e1 : L 1 = true := hb 1 (by kernel_rfl)
          have e2 : L 2 = true := hb 2 (by kernel_rfl)
          have e5 : L 5 = true := hb 5 (by kernel_rfl)
          have e6 : L 6 = false := hL
          have hbd := HBD.out
          simp only [List.map, e1, e2, e5, e6] at hI ⊢
          obtain ⟨gb, gv, gu, gw⟩ := gx
          obtain ⟨h1, h2, h3, h4, h5, h6⟩ := hI
          have h8 := (h5 rfl rfl).1
          dsimp only at h8
          obtain ⟨A9, c9, e9, -⟩ := h8.form
          subst e9
          have hbd2 : ((L0) ++ [wOver]).length + (us).length ≤ 20000 := by rw [List.length_append, List.length_singleton]; omega
          exact gives_append (.tmp 35) (.tmp 38) 61 rfl w1.heap.size 9 s0 (.string ⟨#[]⟩) 1 16 Tryz.underlying61 hs hy0 hy1 hy2 rfl (by decide) gv _ _ rfl (h4 rfl rfl) wq.heap.size A9 (us).length c9 ((us).map strV) rfl (OwnS.reads h8 rfl) strs_one (by unfold maxLen; omega) (by omega) h1.size (fun v' w' g2 g3 g4 => ⟨(gb, gv, .slice A9 _ c9, v'), rfl, (KeepsV.of_same ⟨.inr (.inr rfl), (by first | exact .inr (.inr rfl) | exact .inr (.inl (by kernel_rfl))), (by first | exact .inr (.inr rfl) | exact .inr (.inl (by kernel_rfl))), .inr (.inr rfl), .inr (.inr rfl), (by first | exact .inr (.inr rfl) | exact .inr (.inl (by kernel_rfl))), .inl rfl, (by first | exact .inr (.inr rfl) | exact .inr (.inl (by kernel_rfl))), trivial⟩), h1.grown g3 h1.size (fun b hb => ((h4 rfl rfl).lt b hb).1), (fun h => by cases h), (fun _ h => by cases h), (fun _ h => by cases h), (fun _ h => by cases h), fun _ => OwnS.snoc rfl rfl g2⟩)
        · exact Gives.plain (v := gx.2.2.2) (w' := wq) (by kernel_rfl) rfl hI
      · intro gx wq hI
        have HS := Lib.hid (LSt.mk hI.1 (hI.2.2.2.2.2 rfl))
        clear hI
        obtain ⟨gb, gv, gu, gw⟩ := gx
        dsimp only at HS
        go_wp2_with fail
        go_meet
        rw [HEO.out, ← List.append_assoc]
        exact HS
  case rest =>
    clear c0 HS
    have HS := hcut
    clear hcut
    have c4 := (keep HS.out.bel K0.out).cell 4
    have HL3 := Lib.hid (show (L0 ++ O).length ≤ 5 by rw [List.length_append]; have := HL2.out; have := HOL.out; omega)
    generalize hq : L0 ++ O = L1 at *
    have HQ1 := Lib.hid hq
    clear hq
    go_upto_if 42 with (fail)
    go_cut [3] (fun vv wc => Hid (LSt w1 wc vv (L1 ++ FF)))
    case first =>
      cases q5 : f.toList.isEmpty
      · have HEF := Lib.hid (HF1.out q5)
        have n5 : (!f.toList.isEmpty) = true := by rw [q5]; rfl
        clear q5
        have hba := bel_alloc wc (.cells #[.string ⟨#[97, 115]⟩, .string f] 9)
        have HS2 := Lib.hid (LSt.mk (HS.out.bel.alloc HS.out.bel.size (.cells #[.string ⟨#[97, 115]⟩, .string f] 9)) (HS.out.own.keep hba))
        have HN := Lib.hid (OwnS.new wc w1.heap.size HS.out.bel.size [wAs, f.data.toList] 2 rfl (by omega) #[.string ⟨#[97, 115]⟩, .string f] (by rw [List.map_cons, List.map_cons, str_raw]; rfl))
        have hl := HL3.out
        clear hba
        go_wp2_with (at_builtin; refine wpList_append_any _ rfl (.tmp 43) (.tmp 46) 61 rfl w1.heap.size 9 s0 (.string ⟨#[]⟩) 1 16 Tryz.underlying61 hs hy0 hy1 hy2 rfl (by decide) _ _ _ rfl HS2.out.own _ (some ⟨wc.heap.size, 0, none⟩) 2 2 ([wAs, f.data.toList].map strV) rfl (OwnS.reads HN.out rfl) strs_one (by unfold maxLen; omega) (by omega) HS2.out.bel.size ?_); intro v' w' g2 g3 g4
        have HS3 := Lib.hid (LSt.mk (HS2.out.bel.grown g3 HS2.out.bel.size fun b hb => (HS2.out.own.lt b hb).1) (OwnS.snoc (us := [wAs, f.data.toList]) rfl rfl g2))
        clear g2 g3 g4 HS2 HN n5 hl c4
        go_wp2_with fail
        go_meet
        rw [HEF.out]
        exact HS3
      · have HEF := Lib.hid (HF0.out q5)
        have n5 : (!f.toList.isEmpty) = false := by rw [q5]; rfl
        clear q5
        go_wp2_with fail
        go_meet
        rw [HEF.out, List.append_nil]
        exact HS
    case rest =>
      clear c4 HS
      have HS := hcut
      clear hcut
      have HL4 := Lib.hid (show (L1 ++ FF).length ≤ 7 by rw [List.length_append]; have := HL3.out; have := HFL.out; omega)
      generalize hq : L1 ++ FF = L2 at *
      have HQ2 := Lib.hid hq
      clear hq
      go_wp2_with fail
      go_loopw [3, 4] (fun vv i wr => ∃ j : Nat, j ≤ ts.length ∧ i = .int .i64 j ∧ Hid (LSt w1 wr vv (L2 ++ prtL true (ts.take j)))) (fun _ i _ => ts.length - (intOf i).toNat)
      case atStart => exact ⟨0, by omega, rfl, by rw [List.take_zero, show prtL true [] = [] by rw [prtL], List.append_nil]; exact HS⟩
      case round =>
        clear HS
        obtain ⟨j, hj, rfl, HS⟩ := hrel
        have c3 := (keep HS.out.bel K0.out).cell 3
        have hlp := prtL_len (ts.take j) true
        have hcp := cntL_take ts j
        by_cases hlt : j < ts.length
        · obtain ⟨y, hy⟩ : ∃ y, ts[j]? = some y := ⟨_, List.getElem?_eq_getElem hlt⟩
          obtain ⟨ad, A2, cap2, rfl, hadl, hp⟩ := HA.out.at_ hy
          have HPY := Lib.hid hp
          have HSN := Lib.hid (show L2 ++ prtL true (ts.take (j + 1)) = (L2 ++ prtL true (ts.take j)) ++ [if j = 0 then wOf else wAnd] ++ prtM y by rw [prtL_snoc hy]; simp)
          have HCY := Lib.hid (show cntM y ≤ m by have := cnt_arg hy; have := HZ.out; omega)
          have HFY := Lib.hid (formML_at HFM.out hy)
          have HBD := Lib.hid (show (L2 ++ prtL true (ts.take j)).length + 1 + (prtM y).length ≤ 19000 by
            have h1 := prt_len y
            have h2 := HCY.out
            have h3 := HZ.out
            have h4 := HL4.out
            rw [List.length_append]
            omega)
          have hji : (j : Int) < (ts.length : Int) := by omega
          clear hy hp hlp hcp
          generalize L2 ++ prtL true (ts.take j) = L3 at *
          have HIC := Lib.hid (fun wq hM => IH.out y (trmC y.kind y.nam y.vr A2 y.args.length cap2 y.form) wq HCY.out (by have := HZ.out; omega) HFY.out hM)
          generalize prtM y = us2 at *
          go_upto_if 56 with (fail)
          go_cut [5] (fun vv wc => vv = strV (if j = 0 then wOf else wAnd) ∧ wc = wr)
          case first =>
            by_cases hj0 : j = 0
            · have q0 : ((j : Int) == 0) = true := by rw [beq_iff_eq]; omega
              have HJ := Lib.hid hj0
              clear hj0
              go_wp2_with fail
              go_meet
              exact ⟨by rw [if_pos HJ.out]; rfl, rfl⟩
            · have q0 : ((j : Int) == 0) = false := by rw [beq_eq_false_iff_ne]; omega
              have HJ := Lib.hid hj0
              clear hj0
              go_wp2_with fail
              go_meet
              exact ⟨by rw [if_neg HJ.out]; rfl, rfl⟩
          case rest =>
            obtain ⟨rfl, rfl⟩ := hcut
            generalize (if j = 0 then wOf else wAnd) = wd at *
            go_upto_region 19 with (fail)
            clear c3
            refine region_ghostE (X := Nat × Value × Value × Value) (by kernel_rfl) [true, false, false, false, false, false, false, false, false, false, false, false] _ (fun gx => [u3, strV wd, .slice (some ⟨gx.1, 0, none⟩) 1 1, gx.2.1, .pointer (some ⟨w.heap.size, 3, none⟩), .slice (some ad) ts.length cap, .int .i64 (↑j), .pointer (some (ad.add (j * 5))), .agg (trmC y.kind y.nam y.vr A2 y.args.length cap2 y.form), gx.2.2.1, gx.2.2.2, gx.2.2.2]) [true, true, true, true, true, true, true, true, true, true, true, true] [2, 3, 9, 10] (InvO w1 u3 L3 (wd) (us2)) (0, .nilFunc, .nilFunc, .nilFunc) (by kernel_rfl) (fun gx => by simp [fin, finOn, dstAt, List.range, List.range.loop, Act.put]; rfl) (fun _ => by kernel_rfl) (by kernel_rfl) ⟨below_drew HS.out.bel, (fun _ => HS.out.own.keep (below_drew (Below.refl _ _))), (fun h => by cases h), (fun h => by cases h), (fun h => by cases h), fun h => by cases h⟩ ?_ ?_
            · refine ⟨fun L gx wq hL hb ha hI => ?_, fun L gx wq hL hb ha hI => ?_, fun L gx wq hL hb ha hI => ?_, fun L gx wq hL hb ha hI => ?_, fun L gx wq hL hb ha hI => ?_, fun L gx wq hL hb ha hI => ?_, fun L gx wq hL hb ha hI => ?_, fun L gx wq hL hb ha hI => ?_, fun L gx wq hL hb ha hI => ?_, fun L gx wq hL hb ha hI => ?_, fun L gx wq hL hb ha hI => ?_, fun L gx wq hL hb ha hI => ?_, trivial⟩
              · exact Gives.plain (v := u3) (w' := wq) (by kernel_rfl) rfl hI
              · exact Gives.plain (v := strV wd) (w' := wq) (by kernel_rfl) rfl hI
              · have e2 : L 2 = false := hL
                have e3 : L 3 = false := ha 3 (by kernel_rfl)
                have e10 : L 10 = false := ha 10 (by kernel_rfl)
                cases e9 : L 9
                all_goals
                  simp only [List.map, e2, e3, e9, e10] at hI ⊢
                  have hK := hI.keep (bel_alloc wq (.cells #[strV (wd)] 9))
                  exact Gives.value (v := .slice (some ⟨wq.heap.size, 0, none⟩) 1 1) (w' := wq.alloc (.cells #[strV (wd)] 9)) (by simp [go_sem, evAct] <;> rfl) ⟨(wq.heap.size, gx.2), rfl, (KeepsV.of_same ⟨.inr (.inr rfl), .inr (.inr rfl), .inl rfl, (by first | exact .inr (.inr rfl) | exact .inr (.inl (by kernel_rfl))), .inr (.inr rfl), .inr (.inr rfl), .inr (.inr rfl), .inr (.inr rfl), .inr (.inr rfl), (by first | exact .inr (.inr rfl) | exact .inr (.inl (by kernel_rfl))), (by first | exact .inr (.inr rfl) | exact .inr (.inl (by kernel_rfl))), (by first | exact .inr (.inr rfl) | exact .inr (.inl (by kernel_rfl))), trivial⟩), hK.1, hK.2.1, (fun _ _ => Blk.new _ _ _), hK.2.2.2.1, hK.2.2.2.2.1, hK.2.2.2.2.2⟩
              · have e2 : L 2 = true := hb 2 (by kernel_rfl)
                have e3 : L 3 = false := hL
                have e10 : L 10 = false := ha 10 (by kernel_rfl)
                have hbd := HBD.out
                cases e9 : L 9
                all_goals
                  simp only [List.map, e2, e3, e9, e10] at hI ⊢
                  obtain ⟨h1, h2, h3, h4, h5, h6⟩ := hI
                  exact gives_append (.tmp 57) (.tmp 59) 61 rfl w1.heap.size 9 s0 (.string ⟨#[]⟩) 1 16 Tryz.underlying61 hs hy0 hy1 hy2 rfl (by decide) u3 _ _ rfl (h2 rfl) wq.heap.size (some ⟨gx.1, 0, none⟩) 1 1 [strV (wd)] rfl (reads_cell (h3 rfl rfl)) (strs_one (ts := [wd])) (by unfold maxLen; omega) (by omega) h1.size (fun v' w' g2 g3 g4 => ⟨(gx.1, v', gx.2.2), rfl, (KeepsV.of_same ⟨.inr (.inr rfl), .inr (.inr rfl), (by first | exact .inr (.inr rfl) | exact .inr (.inl (by kernel_rfl))), .inl rfl, .inr (.inr rfl), .inr (.inr rfl), .inr (.inr rfl), .inr (.inr rfl), .inr (.inr rfl), (by first | exact .inr (.inr rfl) | exact .inr (.inl (by kernel_rfl))), (by first | exact .inr (.inr rfl) | exact .inr (.inl (by kernel_rfl))), (by first | exact .inr (.inr rfl) | exact .inr (.inl (by kernel_rfl))), trivial⟩), h1.grown g3 h1.size (fun b hb => ((h2 rfl).lt b hb).1), (fun h => by cases h), (fun _ h => by cases h), (fun _ _ => OwnS.snoc rfl rfl g2), (fun p q => ⟨(h5 p q).1.grown g3 (fun b hb e => (h5 p q).2 rfl b e hb), fun h => by cases h⟩), fun h => by cases h⟩)
              · exact Gives.plain (v := .pointer (some ⟨w.heap.size, 3, none⟩)) (w' := wq) (by simp [go_sem, evAct]) rfl hI
              · have cJ := (keep hI.1 K0.out).cell 3
                exact Gives.plain (v := .slice (some ad) ts.length cap) (w' := wq) (by simp [go_sem, evAct, cJ]) rfl hI
              · exact Gives.plain (v := .int .i64 (↑j)) (w' := wq) (by kernel_rfl) rfl hI
              · skip
                exact Gives.plain (v := .pointer (some (ad.add (j * 5)))) (w' := wq) (by simp [go_sem, evAct, hlt]; try omega) rfl hI
              · obtain ⟨-, d0, d1, d2, d3, d4, -⟩ := HPY.out.keep hI.1
                exact Gives.plain (v := .agg (trmC y.kind y.nam y.vr A2 y.args.length cap2 y.form)) (w' := wq) (by simp [go_sem, evAct, d0, d1, d2, d3, d4]) rfl hI
              · have e9 : L 9 = false := hL
                have e10 : L 10 = false := ha 10 (by kernel_rfl)
                have hbe := hI.1
                refine Gives.call (f := 41) (args := #[.agg (trmC y.kind y.nam y.vr A2 y.args.length cap2 y.form)]) (w' := wq) (by kernel_rfl) ((HIC.out wq (HPY.out.keep hI.1).whole).mono ?_)
                rintro e wz ⟨u, rfl, ho, hbz⟩
                cases e2 : L 2 <;> cases e3 : L 3
                all_goals
                  simp only [List.map, e2, e3, e9, e10] at hI ⊢
                  have hK := hI.keep hbz
                  exact ⟨_, rfl, (gx.1, gx.2.1, u, gx.2.2.2), rfl, (KeepsV.of_same ⟨.inr (.inr rfl), .inr (.inr rfl), (by first | exact .inr (.inr rfl) | exact .inr (.inl (by kernel_rfl))), (by first | exact .inr (.inr rfl) | exact .inr (.inl (by kernel_rfl))), .inr (.inr rfl), .inr (.inr rfl), .inr (.inr rfl), .inr (.inr rfl), .inr (.inr rfl), .inl rfl, (by first | exact .inr (.inr rfl) | exact .inr (.inl (by kernel_rfl))), (by first | exact .inr (.inr rfl) | exact .inr (.inl (by kernel_rfl))), trivial⟩), hK.1, hK.2.1, hK.2.2.1, hK.2.2.2.1, (fun _ _ => ⟨ho.more hbe.size, fun p b hv hu => by have q1 := (ho.lt b hu).1; have q2 := ((hI.2.1 p).lt b hv).2; omega⟩), fun h => by cases h⟩
              · have e2 : L 2 = true := hb 2 (by kernel_rfl)
                have e3 : L 3 = true := hb 3 (by kernel_rfl)
                have e9 : L 9 = true := hb 9 (by kernel_rfl)
                have e10 : L 10 = false := hL
                have hbd := HBD.out
                simp only [List.map, e2, e3, e9, e10] at hI ⊢
                obtain ⟨gb, gv, gu, gw⟩ := gx
                obtain ⟨h1, h2, h3, h4, h5, h6⟩ := hI
                have h8 := (h5 rfl rfl).1
                dsimp only at h8
                obtain ⟨A9, c9, e9, -⟩ := h8.form
                subst e9
                have hbd2 : ((L3) ++ [wd]).length + (us2).length ≤ 20000 := by rw [List.length_append, List.length_singleton]; omega
                exact gives_append (.tmp 60) (.tmp 66) 61 rfl w1.heap.size 9 s0 (.string ⟨#[]⟩) 1 16 Tryz.underlying61 hs hy0 hy1 hy2 rfl (by decide) gv _ _ rfl (h4 rfl rfl) wq.heap.size A9 (us2).length c9 ((us2).map strV) rfl (OwnS.reads h8 rfl) strs_one (by unfold maxLen; omega) (by omega) h1.size (fun v' w' g2 g3 g4 => ⟨(gb, gv, .slice A9 _ c9, v'), rfl, (KeepsV.of_same ⟨.inr (.inr rfl), .inr (.inr rfl), (by first | exact .inr (.inr rfl) | exact .inr (.inl (by kernel_rfl))), (by first | exact .inr (.inr rfl) | exact .inr (.inl (by kernel_rfl))), .inr (.inr rfl), .inr (.inr rfl), .inr (.inr rfl), .inr (.inr rfl), .inr (.inr rfl), (by first | exact .inr (.inr rfl) | exact .inr (.inl (by kernel_rfl))), .inl rfl, (by first | exact .inr (.inr rfl) | exact .inr (.inl (by kernel_rfl))), trivial⟩), h1.grown g3 h1.size (fun b hb => ((h4 rfl rfl).lt b hb).1), (fun h => by cases h), (fun _ h => by cases h), (fun _ h => by cases h), (fun _ h => by cases h), fun _ => OwnS.snoc rfl rfl g2⟩)
              · exact Gives.plain (v := gx.2.2.2) (w' := wq) (by kernel_rfl) rfl hI
            · intro gx wq hI
              have HS := Lib.hid (LSt.mk hI.1 (hI.2.2.2.2.2 rfl))
              clear hI
              obtain ⟨gb, gv, gu, gw⟩ := gx
              dsimp only at HS
              rw [← HSN.out] at HS
              go_wp2_with fail
              go_roundw
              case rel => exact ⟨j + 1, by omega, by go_num, HS⟩
              case measure => simp [intOf]; omega
        · obtain rfl : j = ts.length := by omega
          rw [List.take_of_length_le (Nat.le_refl _)] at HS
          have HQE := Lib.hid (show L2 ++ prtL true ts ++ [wEnd] = L0 ++ (O ++ (FF ++ (prtL true ts ++ [wEnd]))) by rw [← HQ2.out, ← HQ1.out]; simp only [List.append_assoc])
          have hbd : (L2 ++ prtL true ts).length ≤ 19000 := by
            have h1 := prtL_len ts true
            have h3 := HZ.out
            have h4 := HL4.out
            rw [List.length_append]
            omega
          clear hlp hcp
          generalize L2 ++ prtL true ts = L3 at *
          have hba := bel_alloc wr (.cells #[.string ⟨#[101, 110, 100]⟩] 9)
          have HS2 := Lib.hid (LSt.mk (HS.out.bel.alloc HS.out.bel.size (.cells #[.string ⟨#[101, 110, 100]⟩] 9)) (HS.out.own.keep hba))
          have HN := Lib.hid (OwnS.new wr w1.heap.size HS.out.bel.size [wEnd] 1 rfl (by omega) #[.string ⟨#[101, 110, 100]⟩] (by rfl))
          clear hba
          go_wp2_with (at_builtin; refine wpList_append_any _ rfl (.tmp 68) (.tmp 69) 61 rfl w1.heap.size 9 s0 (.string ⟨#[]⟩) 1 16 Tryz.underlying61 hs hy0 hy1 hy2 rfl (by decide) _ _ _ rfl HS2.out.own _ (some ⟨wr.heap.size, 0, none⟩) 1 1 ([wEnd].map strV) rfl (OwnS.reads HN.out rfl) strs_one (by unfold maxLen; omega) (by omega) HS2.out.bel.size ?_); intro v' w' g2 g3 g4
          have HS3 := Lib.hid (LSt.mk (HS2.out.bel.grown g3 HS2.out.bel.size fun b hb => (HS2.out.own.lt b hb).1) (OwnS.snoc (us := [wEnd]) rfl rfl g2))
          clear g2 g3 g4 HS2 HN hbd
          go_wp2_with fail
          go_ret
          exact ⟨_, rfl, by show OwnS _ _ _ ([wThe, a.data.toList] ++ (O ++ (FF ++ (prtL true ts ++ [wEnd])))); rw [HQ0.out, ← HQE.out]; exact HS3.out.own.more HB.out.size, HB.out.trans (HS3.out.bel.mono HB.out.size)⟩
end Go.Proofs.YtpokelkneblafaaGreatDoor
