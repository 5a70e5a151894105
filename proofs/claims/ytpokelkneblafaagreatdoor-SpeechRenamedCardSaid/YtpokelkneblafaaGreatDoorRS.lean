/- Lists of strings that a call has made; the reference's Digits and spoken. -/
import Derived.Test.YtpokelkneblafaaGreatDoorRW
import Derived.Test.YtpokelkneblafaaGreatDoorC4
import Derived.Laws.BytesArg
namespace Go.Proofs.YtpokelkneblafaaGreatDoor
open Go.RowKit
theorem info_str : (Tryz.prog.info? 9).map (fun i => (i.zero, i.size, i.bytes)) = some (some (.string ⟨#[]⟩), 1, 16) := by kernel_rfl
def strV (l : List UInt8) : Value := .string (bys l)
/-- a list of strings that this call has made -/
def OwnS (w : World) (B : Nat) (v : Value) (ts : List (List UInt8)) : Prop := w.ownsRow B 9 1 v ts.length (ts.map strV)
theorem OwnS.keep {w w' : World} {B : Nat} {v : Value} {ts : List (List UInt8)} (h : OwnS w B v ts) (hb : Below w.heap.size w w') : OwnS w' B v ts := own_below h hb
theorem OwnS.more {w : World} {B B' : Nat} {v : Value} {ts : List (List UInt8)} (h : OwnS w B v ts) (hB : B' ≤ B) : OwnS w B' v ts := own_more h hB
theorem OwnS.nil (w : World) (B : Nat) : OwnS w B (.slice none 0 0) [] := ⟨rfl, .inl ⟨rfl, rfl⟩⟩
theorem OwnS.new (w : World) (B : Nat) (hB : B ≤ w.heap.size) (ts : List (List UInt8)) (n : Nat) (hn : n = ts.length) (hm : n ≤ 1000000) (cs : Array Value) (hc : cs.toList = ts.map strV) : OwnS (w.alloc (.cells cs 9)) B (.slice (some ⟨w.heap.size, 0, none⟩) n n) ts := by
  subst hn
  have hs : cs.size = ts.length := by
    have := congrArg List.length hc
    simpa using this
  refine ⟨by simp, .inr ⟨w.heap.size, ts.length, cs, rfl, hB, Blk.new w _ _, Nat.le_refl _, by unfold maxLen; omega, by rw [hs, Nat.mul_one], ?_⟩⟩
  rw [hc, List.take_of_length_le (by simp)]
theorem OwnS.snoc {w : World} {B n m : Nat} {v : Value} {ts us : List (List UInt8)} (hn : ts.length = n) (hm : us.length = m) (h : w.ownsRow B 9 1 v (n + m) (ts.map strV ++ us.map strV)) : OwnS w B v (ts ++ us) := by
  unfold OwnS
  rw [List.length_append, hn, hm, List.map_append]
  exact h
theorem OwnS.form {w : World} {B : Nat} {v : Value} {ts : List (List UInt8)} (h : OwnS w B v ts) : ∃ A cap, v = .slice A ts.length cap ∧ ts.length ≤ cap ∧ cap ≤ 9223372036854775807 ∧ ∀ (j : Nat) (p : List UInt8), ts[j]? = some p → ∃ ad : Addr, A = some ad ∧ ad.block < w.heap.size ∧ w.cell? (ad.add j) = some (.string (bys p)) := by
  obtain ⟨h1, h2⟩ := h
  rcases h2 with ⟨rfl, h0⟩ | ⟨g, cap, cur, rfl, hg, hb, hn, hc, hs, ht⟩
  · obtain rfl : ts = [] := List.length_eq_zero_iff.1 h0
    exact ⟨none, 0, rfl, by simp, by omega, fun j p hj => by simp at hj⟩
  · have hb' : Blk w g 9 cur := hb
    refine ⟨_, cap, rfl, hn, by unfold maxLen at hc; omega, fun j p hj => ⟨⟨g, 0, none⟩, rfl, hb'.lt, ?_⟩⟩
    rw [show (⟨g, 0, none⟩ : Addr).add j = ⟨g, j, none⟩ by unfold Addr.add; split <;> simp_all, hb'.cell]
    have h3 : (ts.map strV)[j]? = some (.string (bys p)) := by rw [List.getElem?_map, hj]; rfl
    rw [← ht, List.getElem?_take] at h3
    split at h3
    · simpa using h3
    · cases h3
theorem OwnS.lt {w : World} {B : Nat} {v : Value} {ts : List (List UInt8)} (h : OwnS w B v ts) : ∀ b, v.ownBlock = some b → B ≤ b ∧ b < w.heap.size := fun b hb => World.ownsRow.lt h b hb
theorem OwnS.grown {w w' : World} {B : Nat} {v : Value} {ts : List (List UInt8)} {row : Option Nat} (h : OwnS w B v ts) (hg : w.grownBy w' row) (hr : ∀ b, v.ownBlock = some b → row ≠ some b) : OwnS w' B v ts := by
  refine World.ownsRow.kept h hg ?_
  cases hv : v.ownBlock with
  | none => exact .inl rfl
  | some b => exact .inr fun e => hr b hv e.symm
theorem OwnS.reads {w : World} {B : Nat} {A : Option Addr} {n cap : Nat} {ts : List (List UInt8)} (h : OwnS w B (.slice A n cap) ts) (hn : n = ts.length) : Reads w w.heap.size 1 A n (ts.map strV) := by
  subst hn
  exact Reads.of_own h
theorem strs_one {ts : List (List UInt8)} : ∀ u ∈ ts.map strV, u.oneCell' = true := by
  intro u hu
  obtain ⟨s, _, rfl⟩ := List.mem_map.1 hu
  rfl
theorem dig_small {n : Nat} (h : n < 10) : Lib.decDigits n = [UInt8.ofNat (48 + n)] := by
  rw [Lib.decDigits, dif_pos h]
theorem dig_big {n : Nat} (h : 10 ≤ n) : Lib.decDigits n = Lib.decDigits (n / 10) ++ Lib.decDigits (n % 10) := by
  rw [dig_small (n := n % 10) (by omega), Lib.decDigits, dif_neg (by omega)]
theorem dec_len : ∀ n : Nat, (Lib.decDigits n).length ≤ n + 1 := by
  intro n
  induction n using Nat.strongRecOn with
  | _ n ih =>
    rw [Lib.decDigits]
    split
    · simp
    · next h =>
      have := ih (n / 10) (by omega)
      rw [List.length_append]
      simp only [List.length_cons, List.length_nil]
      omega
theorem rdig_len {n : Nat} (h1 : n ≤ 1000000) : (bys (Lib.decDigits n)).size ≤ 1000001 := by
  have := dec_len n
  rw [bys_len]
  omega
theorem bys_app (a b : List UInt8) : bys a ++ bys b = bys (a ++ b) := by
  apply ByteArray.ext
  simp [bys, ByteArray.data_append]
def dgB (n : Int) : ByteArray := bys [UInt8.ofNat n.toNat]
theorem conv_dig (w : World) (n : Int) : (convert 48 9 (.slice (some ⟨w.heap.size, 0, none⟩) 1 1)).run Tryz.prog (w.alloc (.cells #[.int .u8 n] 5)) = .ok (.string (dgB n)) (w.alloc (.cells #[.int .u8 n] 5)) :=
  run_convert_bytes_arg (P := Tryz.prog) _ 48 5 Tryz.underlying48 Tryz.underlying5 w.heap.size 0 1 1 [n] rfl (fun i hi => by
    obtain rfl : i = 0 := by omega
    exact Blk.cell (Blk.new w 5 #[.int .u8 n]) 0) 9 Tryz.underlying9
set_option maxHeartbeats 400000 in
theorem rdigs_small (n : Nat) (w : World) (h : n < 10) : Calls Tryz.prog 60 #[.int .i64 (n : Int)] w fun e w' => e = .returned (.string (dgB (48 + (n : Int)))) ∧ Below w.heap.size w w' := by
  have hc := conv_dig w (48 + (n : Int))
  have hw : IntKind.u8.wrap (48 + (n : Int)) = 48 + (n : Int) := by unfold IntKind.wrap; simp [IntKind.signed, IntKind.bits]; omega
  have hn : (n : Int) < 10 := by omega
  go_enter Tryz.func60, Tryz.ntmps60
  go_wp2_with fail
  go_ret
  exact ⟨rfl, (Below.refl _ _).alloc (Nat.le_refl _) _⟩
set_option maxHeartbeats 400000 in
theorem rdigs_any (k : Nat) : ∀ (n : Nat) (w : World), n < k → n ≤ 1000000 → Calls Tryz.prog 60 #[.int .i64 (n : Int)] w fun e w' => e = .returned (.string (bys (Lib.decDigits n))) ∧ Below w.heap.size w w' := by
  induction k with
  | zero => intro n w h1; omega
  | succ k ih =>
    intro n w hk h1
    have IH := Lib.hid ih
    clear ih
    by_cases hs : n < 10
    · have e : bys (Lib.decDigits n) = dgB (48 + (n : Int)) := by rw [dig_small hs]; unfold dgB; rw [show (48 + (n : Int)).toNat = 48 + n by omega]
      rw [e]
      exact rdigs_small n w hs
    · rw [dig_big (n := n) (by omega), ← bys_app]
      have s1 := rdig_len (n := n / 10) (by omega)
      have s2 := rdig_len (n := n % 10) (by omega)
      have e1 : (n : Int).tdiv 10 = ((n / 10 : Nat) : Int) := by rw [Int.tdiv_eq_ediv_of_nonneg (by omega)]; omega
      have e2 : (n : Int).tmod 10 = ((n % 10 : Nat) : Int) := by rw [Int.tmod_eq_emod_of_nonneg (by omega)]; omega
      have hn : ¬ (n : Int) < 10 := by omega
      go_enter Tryz.func60, Tryz.ntmps60
      go_wp2_with fail
      refine (IH.out (n / 10) w (by omega) (by omega)).mono ?_
      rintro e w1 ⟨rfl, hb1⟩
      have B1 := Lib.hid hb1
      clear hb1
      go_wp2_with fail
      refine (IH.out (n % 10) _ (by omega) (by omega)).mono ?_
      rintro e w2 ⟨rfl, hb2⟩
      have B2 := Lib.hid (B1.out.trans (hb2.mono B1.out.size))
      clear hb2 B1
      go_wp2_with fail
      go_ret
      exact ⟨rfl, B2.out⟩
theorem rdec_any (n : Nat) (w : World) (h1 : n ≤ 1000000) : Calls Tryz.prog 60 #[.int .i64 (n : Int)] w fun e w' => e = .returned (.string (bys (Lib.decDigits n))) ∧ Below w.heap.size w w' :=
  rdigs_any (n + 1) n w (by omega) h1
theorem spoken_two {l : List UInt8} : (spokenL l).length ≤ 2 := by
  unfold spokenL
  split
  · split
    · simp
    · split <;> simp
  · simp
theorem name_found {l : List UInt8} {k : Nat} (h1 : ∀ j, j < k → (nameL l)[j]? ≠ some 32) (h2 : (nameL l)[k]? = some 32) : spokenL l = [(nameL l).take k, (nameL l).drop (k + 1)] := by
  have hs := spoken_split l
  have h4 := spoken_two (l := l)
  rw [← hs] at h4
  rw [← hs]
  generalize nameL l = n at *
  have hk : k < n.length := by
    rcases Nat.lt_or_ge k n.length with h | h
    · exact h
    · rw [List.getElem?_eq_none h] at h2; cases h2
  have e : n = n.take k ++ 32 :: n.drop (k + 1) := by
    have h3 : n[k] = 32 := by rw [List.getElem?_eq_getElem hk] at h2; exact Option.some.inj h2
    rw [← h3, ← List.drop_eq_getElem_cons hk, List.take_append_drop]
  have hn : (32 : UInt8) ∉ n.take k := fun hm => by
    obtain ⟨j, hj⟩ := List.getElem?_of_mem hm
    rw [List.getElem?_take] at hj
    split at hj
    · exact h1 j ‹_› hj
    · cases hj
  have e2 := splitL_app (b := n.drop (k + 1)) hn
  rw [← e] at e2
  rw [e2] at h4 ⊢
  have e3 := splitL_ht 32 (n.drop (k + 1))
  have e4 := join_split 32 (n.drop (k + 1))
  cases hq : splitL 32 (n.drop (k + 1)) with
  | nil => exact absurd hq (splitL_ne _ _)
  | cons x r =>
    rw [hq] at h4 e4
    obtain rfl : r = [] := by
      cases r with
      | nil => rfl
      | cons y r => simp at h4
    simp [Lib.join] at e4
    rw [e4]
theorem name_whole {l : List UInt8} (h1 : ∀ j, j < (nameL l).length → (nameL l)[j]? ≠ some 32) : spokenL l = [nameL l] := by
  rw [← spoken_split l]
  refine splitL_none fun hm => ?_
  obtain ⟨j, hj⟩ := List.getElem?_of_mem hm
  exact h1 j (by
    rcases Nat.lt_or_ge j (nameL l).length with h | h
    · exact h
    · rw [List.getElem?_eq_none h] at hj; cases hj) hj
/-- behind a call that gives a list of strings -/
def StrsP (ts : List (List UInt8)) (w : World) (e : Ending) (w' : World) : Prop := ∃ v, e = .returned v ∧ OwnS w' w.heap.size v ts ∧ Below w.heap.size w w'
theorem nameL_len (l : List UInt8) : (nameL l).length ≤ l.length + 8 := by
  unfold nameL
  split
  · split
    · simp [wName] <;> omega
    · split
      · rw [List.length_append, List.length_cons]
        have : (Lib.toLowerA l).length = l.length := by unfold Lib.toLowerA; simp
        rw [this]; simp [wCap] <;> omega
      · omega
  · simp
set_option maxRecDepth 100000 in
set_option maxHeartbeats 4000000 in
theorem rspoken_any (s : ByteArray) (w : World) (hs : s.size ≤ 1000000) : Calls Tryz.prog 59 #[.string s] w (StrsP (spokenL s.data.toList) w) := by
  have HNA := Lib.hid (rname_any s w (by omega))
  have hz : (nameS s).size ≤ 1000008 := by
    unfold nameS
    rw [bys_len]
    have := nameL_len s.data.toList
    have e : s.data.toList.length = s.size := by simp
    omega
  have HF := Lib.hid (fun (k : Nat) h1 h2 => name_found (l := s.data.toList) (k := k) h1 h2)
  have HW := Lib.hid (name_whole (l := s.data.toList))
  have HS := Lib.hid (show nameS s = bys (nameL s.data.toList) from rfl)
  have HT := Lib.hid (fun k => bys_take (nameL s.data.toList) k)
  have HD := Lib.hid (fun k => bys_drop (nameL s.data.toList) k)
  generalize spokenL s.data.toList = us at *
  generalize nameL s.data.toList = nl at *
  go_enter Tryz.func59, Tryz.ntmps59
  go_wp2_with fail
  refine HNA.out.mono ?_
  rintro e w1 ⟨rfl, hb⟩
  have HB := Lib.hid hb
  clear hb HNA
  rw [HS.out] at hz ⊢
  clear HS
  go_wp2_with fail
  go_loop [4] (fun i => ∃ k : Nat, k ≤ (bys nl).size ∧ i = .int .i64 k ∧ Hid (∀ j, j < k → nl[j]? ≠ some 32)) (fun i => (bys nl).size - (intOf i).toNat)
  case atStart => exact ⟨0, by omega, rfl, Lib.hid (fun j h => by omega)⟩
  case round =>
    obtain ⟨k, hk, rfl, HJ⟩ := hrel
    by_cases hlt : k < (bys nl).size
    · by_cases h32 : (bys nl)[k] = 32
      · have q1 : ((↑(bys nl)[k].toNat : Int) == 32) = true := by rw [h32]; rfl
        have HE := Lib.hid (HF.out k HJ.out (by rw [bys_get nl k hlt, h32]))
        have w1x : IntKind.i64.wrap ((k : Int) + 1) = (k : Int) + 1 := IntWalk.i64_in _ (by omega)
        go_upto_region 6 with (fail)
        have x1 := bys_take nl k
        have x2 := bys_drop nl (k + 1)
        have k1 : (0 : Int) ≤ (k : Int) + 1 ∧ (k : Int) + 1 ≤ ((bys nl).size : Int) := by omega
        obtain ⟨k1, k2⟩ := k1
        go_still_tail 7, (by kernel_rfl)
        change wpList _ _ _ _ _ w1.drew
        replace HB := Lib.hid (below_drew HB.out)
        generalize w1.drew = w2 at *
        go_wp2
        go_ret
        rw [HE.out]
        exact ⟨_, rfl, OwnS.new w2 w.heap.size HB.out.size [_, _] 2 rfl (by omega) _ rfl, HB.out.alloc HB.out.size _⟩
      · have q1 : ((↑(bys nl)[k].toNat : Int) == 32) = false := by
          rw [beq_eq_false_iff_ne]
          intro e
          apply h32
          apply UInt8.toNat_inj.1
          have : ((bys nl)[k].toNat : Int) = 32 := e
          show (bys nl)[k].toNat = 32
          omega
        have HN := Lib.hid (bys_get nl k hlt)
        go_wp2_with fail
        go_round
        case rel => exact ⟨k + 1, by omega, by go_num, Lib.hid (fun j hj e => by
          rcases Nat.lt_or_ge j k with h | h
          · exact HJ.out j h e
          · obtain rfl : j = k := by omega
            rw [HN.out] at e
            exact h32 (Option.some.inj e))⟩
        case measure => simp [intOf]; omega
    · obtain rfl : k = (bys nl).size := by omega
      have HE := Lib.hid (HW.out (by rw [← bys_len]; exact HJ.out))
      go_wp2_with fail
      go_ret
      rw [HE.out]
      exact ⟨_, rfl, OwnS.new w1 w.heap.size HB.out.size [nl] 1 rfl (by omega) _ rfl, HB.out.alloc HB.out.size _⟩
end Go.Proofs.YtpokelkneblafaaGreatDoor
