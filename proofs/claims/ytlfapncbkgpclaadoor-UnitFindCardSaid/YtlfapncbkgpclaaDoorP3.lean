/- Split (reference): the parts of a string between bytes of a kind, in a new row of strings. -/
import Derived.Test.YtlfapncbkgpclaaDoorP2
namespace Go.Proofs.YtlfapncbkgpclaaDoor
open Go.RowKit
def SplitInv (c : UInt8) (l : List UInt8) (k f : Nat) (done : List (List UInt8)) : Prop :=
  done.length ≤ k ∧ (k ≤ l.length → f ≤ k ∧ done ++ splitL c (l.drop f) = splitL c l ∧ c ∉ (l.drop f).take (k - f)) ∧ (¬ k ≤ l.length → done = splitL c l)
theorem inv_start (c : UInt8) (l : List UInt8) : SplitInv c l 0 0 [] := ⟨by simp, fun _ => ⟨by omega, by simp, by simp⟩, fun h => absurd (Nat.zero_le _) h⟩
/-- a byte of another kind -/
theorem inv_skip {c : UInt8} {l : List UInt8} {k f : Nat} {done : List (List UInt8)} (h : SplitInv c l k f done) (hk : k < l.length) (hne : l[k] ≠ c) : SplitInv c l (k + 1) f done := by
  obtain ⟨h0, h1, _⟩ := h
  obtain ⟨hf, h2, h3⟩ := h1 (by omega)
  refine ⟨by omega, fun _ => ⟨by omega, h2, ?_⟩, fun h => by omega⟩
  have hlt : k - f < (l.drop f).length := by rw [List.length_drop]; omega
  rw [show k + 1 - f = (k - f) + 1 by omega, List.take_succ_eq_append_getElem hlt, List.mem_append]
  rintro (h | h)
  · exact h3 h
  · rw [List.mem_singleton, List.getElem_drop] at h
    apply hne
    rw [h]
    congr 1
    omega
theorem drop_parts {l : List UInt8} {k f : Nat} (hf : f ≤ k) (hk : k < l.length) : l.drop f = (l.drop f).take (k - f) ++ l[k] :: l.drop (k + 1) := by
  have hlt : k - f < (l.drop f).length := by rw [List.length_drop]; omega
  have h2 : (l.drop f)[k - f] = l[k] := by rw [List.getElem_drop]; congr 1; omega
  have h3 := List.drop_eq_getElem_cons hlt
  rw [h2, List.drop_drop, List.drop_drop] at h3
  rw [show f + (k - f) = k by omega, show f + (k - f + 1) = k + 1 by omega] at h3
  conv => lhs; rw [← List.take_append_drop (k - f) (l.drop f)]
  rw [List.drop_drop, show f + (k - f) = k by omega, h3]
/-- a byte of the kind -/
theorem inv_cut {c : UInt8} {l : List UInt8} {k f : Nat} {done : List (List UInt8)} (h : SplitInv c l k f done) (hk : k < l.length) (he : l[k] = c) : SplitInv c l (k + 1) (k + 1) (done ++ [(l.drop f).take (k - f)]) := by
  obtain ⟨h0, h1, _⟩ := h
  obtain ⟨hf, h2, h3⟩ := h1 (by omega)
  refine ⟨by simp; omega, fun _ => ⟨by omega, ?_, by simp⟩, fun h => by omega⟩
  have e := congrArg (splitL c) (drop_parts hf hk)
  rw [he, splitL_app h3] at e
  rw [← h2, e, List.append_assoc]
  rfl
theorem inv_end {c : UInt8} {l : List UInt8} {k f : Nat} {done : List (List UInt8)} (h : SplitInv c l k f done) (hk : k = l.length) : SplitInv c l (k + 1) (k + 1) (done ++ [(l.drop f).take (k - f)]) := by
  obtain ⟨h0, h1, _⟩ := h
  obtain ⟨hf, h2, h3⟩ := h1 (by omega)
  have e : (l.drop f).take (k - f) = l.drop f := List.take_of_length_le (by rw [List.length_drop]; omega)
  rw [e] at h3 ⊢
  refine ⟨by simp; omega, fun h => by omega, fun _ => ?_⟩
  rw [← h2, splitL_none h3]
theorem extract_bys (s : ByteArray) (j k : Nat) : s.extract j k = bys ((s.data.toList.drop j).take (k - j)) := by
  rw [← data_bys (s.extract j k), Lib.extract_data]
theorem app_below {w wr w1 : World} {o : Obj} {v : Value} {e : TypeId} {n : Nat} {xs : List Value} (hown : wr.ownsRow w.heap.size e 1 v n xs) (hb : Below w.heap.size w wr) (hg : (wr.alloc o).grownBy w1 v.ownBlock) : Below w.heap.size w w1 :=
  (hb.alloc hb.size o).grown hg (by rw [World.size_alloc]; have := hb.size; omega) (fun k hk => (hown.lt k hk).1)
def OwnsStrs (w0 : World) (ps : List (List UInt8)) (e : Ending) (w' : World) : Prop := ∃ v, e = .returned v ∧ w'.ownsRow w0.heap.size 9 1 v ps.length (ps.map (fun p => Value.string (bys p))) ∧ Below w0.heap.size w0 w'
set_option maxRecDepth 100000 in
set_option maxHeartbeats 800000 in
theorem rsplit_any (s : ByteArray) (c : UInt8) (w : World) (hs : s.size ≤ 1000000) : Calls Tryd.prog 61 #[.string s, .int .u8 (c.toNat : Int)] w (OwnsStrs w (splitL c s.data.toList)) := by
  obtain ⟨i0, hi, hz0, hz1, hz2⟩ := info_parts info9
  go_enter Tryd.func61, Tryd.ntmps61
  go_wp2_with fail
  go_loopw [5, 6, 7] (fun v f i wr => ∃ (k j : Nat) (done : List (List UInt8)), k ≤ s.size + 1 ∧ i = .int .i64 k ∧ f = .int .i64 j ∧ Hid (SplitInv c s.data.toList k j done) ∧ wr.ownsRow w.heap.size 9 1 v done.length (done.map (fun p => Value.string (bys p))) ∧ Hid (Below w.heap.size w wr)) (fun _ _ i _ => s.size + 1 - (intOf i).toNat)
  case atStart => exact ⟨0, 0, [], by omega, rfl, rfl, inv_start _ _, World.ownsRow_nil _ _ _ _, Below.refl _ _⟩
  case round =>
    obtain ⟨k, j, done, hk, rfl, rfl, HI, hown, H0⟩ := hrel
    by_cases hle : k ≤ s.size
    · have hd := HI.out.1
      have hj := (HI.out.2.1 hle).1
      by_cases hlt : k < s.size
      · have hne : ((k : Int) == (s.size : Int)) = false := beq_eq_false_iff_ne.2 (by omega)
        have hkl : k < s.data.toList.length := by simpa using hlt
        by_cases hc : s.data.toList[k] = c
        · have hq : ((s[k].toNat : Int) == (c.toNat : Int)) = true := by rw [← hc]; simp; rfl
          go_wp2_with (at_builtin; refine wpList_append_own _ rfl (.tmp 25) (.tmp 30) 83 rfl w.heap.size 9 i0 (.string ⟨#[]⟩) 1 16 Tryd.underlying83 hi hz0 hz1 hz2 rfl (by decide) _ _ _ rfl (hown.alloc _) ⟨wr.heap.size, 0, none⟩ 1 1 [.string (s.extract j k)] rfl rfl ?c1a ?c2a ?c3a ?c4a ?c5a ?_)
          case c1a => intro j u hj; match j, hj with | 0, hj => simp at hj; subst hj; simp [Addr.add]
          case c2a => intro u hu; simp at hu; subst hu; rfl
          case c3a => unfold maxLen; omega
          case c4a => omega
          case c5a => have := H0.out.size; simp; omega
          · intro v' w2 hown' hgrow _
            have NB := Lib.hid (app_below hown H0.out hgrow)
            have NI := Lib.hid (inv_cut HI.out hkl hc)
            rw [extract_bys] at hown'
            have NO := Lib.hid hown'
            clear hown' hgrow hown H0
            go_wp2_with fail
            go_roundw
            case rel => exact ⟨k + 1, k + 1, done ++ [(s.data.toList.drop j).take (k - j)], by omega, by go_num, by go_num, NI, by simpa using NO.out, NB⟩
            case measure => simp [intOf]; omega
        · have hq : ((s[k].toNat : Int) == (c.toNat : Int)) = false := by
            rw [beq_eq_false_iff_ne]; intro e; apply hc
            have : s[k].toNat = c.toNat := by omega
            exact UInt8.toNat_inj.1 this
          have NI := Lib.hid (inv_skip HI.out hkl hc)
          have NO := Lib.hid hown
          clear hown
          go_wp2_with fail
          go_roundw
          case rel => exact ⟨k + 1, j, done, by omega, by go_num, rfl, NI, NO.out, H0⟩
          case measure => simp [intOf]; omega
      · have hne : ((k : Int) == (s.size : Int)) = true := beq_iff_eq.2 (by omega)
        go_wp2_with (at_builtin; refine wpList_append_own _ rfl (.tmp 25) (.tmp 30) 83 rfl w.heap.size 9 i0 (.string ⟨#[]⟩) 1 16 Tryd.underlying83 hi hz0 hz1 hz2 rfl (by decide) _ _ _ rfl (hown.alloc _) ⟨wr.heap.size, 0, none⟩ 1 1 [.string (s.extract j k)] rfl rfl ?c1b ?c2b ?c3b ?c4b ?c5b ?_)
        case c1b => intro j u hj; match j, hj with | 0, hj => simp at hj; subst hj; simp [Addr.add]
        case c2b => intro u hu; simp at hu; subst hu; rfl
        case c3b => unfold maxLen; omega
        case c4b => omega
        case c5b => have := H0.out.size; simp; omega
        · intro v' w2 hown' hgrow _
          have NB := Lib.hid (app_below hown H0.out hgrow)
          have NI := Lib.hid (inv_end HI.out (show k = s.data.toList.length by rw [Array.length_toList]; show k = s.size; omega))
          rw [extract_bys] at hown'
          have NO := Lib.hid hown'
          clear hown' hgrow hown H0
          go_wp2_with fail
          go_roundw
          case rel => exact ⟨k + 1, k + 1, done ++ [(s.data.toList.drop j).take (k - j)], by omega, by go_num, by go_num, NI, by simpa using NO.out, NB⟩
          case measure => simp [intOf]; omega
    · have HD := Lib.hid (HI.out.2.2 (by rw [Array.length_toList]; show ¬ k ≤ s.size; exact hle))
      have NO := Lib.hid hown
      clear hown
      go_wp2_with fail
      go_ret
      exact ⟨_, rfl, by rw [← HD.out]; exact NO.out, H0.out⟩
end Go.Proofs.YtlfapncbkgpclaaDoor
