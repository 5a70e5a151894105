/- Identifiers, names of operators, texts within bounds, spoken names: the program and the reference · The tokens of items, by the program -/
import Derived.Test.YthpioplpfmlgcaaGreatDoorH490bea4c
import Derived.Test.YthpioplpfmlgcaaGreatDoorHb304910e
import Derived.Test.YthpioplpfmlgcaaGreatDoorH9d76eed3
namespace Go.Proofs.YthpioplpfmlgcaaGreatDoor.Sp
open Go.Proofs.YthpioplpfmlgcaaGreatDoor.At
open Go.RowKit
set_option maxHeartbeats 400000 in
theorem letter_any (c : UInt8) (w : World) : Calls Tryz.prog 143 #[.int .u8 (c.toNat : Int)] w fun e w' => e = .returned (.bool (letB c)) ∧ w = w' := by
  have hc := c.toNat_lt
  by_cases h1 : 97 ≤ c.toNat
  · by_cases h2 : c.toNat ≤ 122
    · have HR := Lib.hid (show letB c = true by unfold letB; rw [decide_eq_true h1, decide_eq_true h2]; rfl)
      go_enter Tryz.func143, Tryz.ntmps143
      go_wp2_with fail
      go_ret
      exact ⟨ret_bool (by first | exact HR.out.symm | (rw [HR.out]; simp; omega)), rfl⟩
    · have HR := Lib.hid (show letB c = false by unfold letB; rw [decide_eq_false h2, Bool.and_false, decide_eq_false (show ¬ c.toNat ≤ 90 by omega), Bool.and_false]; rfl)
      go_enter Tryz.func143, Tryz.ntmps143
      go_wp2_with fail
      go_ret
      exact ⟨ret_bool (by first | exact HR.out.symm | (rw [HR.out]; simp; omega)), rfl⟩
  · by_cases h3 : 65 ≤ c.toNat
    · by_cases h4 : c.toNat ≤ 90
      · have HR := Lib.hid (show letB c = true by unfold letB; rw [decide_eq_true h3, decide_eq_true h4, Bool.or_eq_true]; exact .inr rfl)
        go_enter Tryz.func143, Tryz.ntmps143
        go_wp2_with fail
        go_ret
        exact ⟨ret_bool (by first | exact HR.out.symm | (rw [HR.out]; simp; omega)), rfl⟩
      · have HR := Lib.hid (show letB c = false by unfold letB; rw [decide_eq_false h1, decide_eq_false h4, Bool.and_false]; rfl)
        go_enter Tryz.func143, Tryz.ntmps143
        go_wp2_with fail
        go_ret
        exact ⟨ret_bool (by first | exact HR.out.symm | (rw [HR.out]; simp; omega)), rfl⟩
    · have HR := Lib.hid (show letB c = false by unfold letB; rw [decide_eq_false h1, decide_eq_false h3]; rfl)
      go_enter Tryz.func143, Tryz.ntmps143
      go_wp2_with fail
      go_ret
      exact ⟨ret_bool (by first | exact HR.out.symm | (rw [HR.out]; simp; omega)), rfl⟩
set_option maxHeartbeats 400000 in
theorem oper_any (s : ByteArray) (w : World) (hs : s.size ≤ 9223372036854775807) : Calls Tryz.prog 153 #[.string s] w fun e w' => e = .returned (.bool (namedB s.toList)) ∧ w = w' := by
  go_enter Tryz.func153, Tryz.ntmps153
  go_wp2_with fail
  go_loop [3] (fun i => ∃ k : Nat, k ≤ s.size ∧ i = .int .i64 k ∧ Hid (∀ (j : Nat) (hj : j < s.size), j < k → letB s[j] = true)) (fun i => s.size - (intOf i).toNat)
  case atStart => exact ⟨0, by omega, rfl, fun j _ h => by omega⟩
  case round =>
    obtain ⟨k, hk, rfl, HJ⟩ := hrel
    by_cases hlt : k < s.size
    · have HC := Lib.hid (fun w => letter_any s[k] w)
      cases hl : letB s[k]
      · have HF := Lib.hid (not_all_get hlt hl)
        rw [hl] at HC
        clear hl
        go_wp2_with fail
        refine (HC.out _).mono ?_
        rintro e w' ⟨rfl, rfl⟩
        go_wp2_with fail
        go_ret
        exact ⟨ret_bool (by unfold namedB lettersB; rw [HF.out]; rfl), rfl⟩
      · have HL := Lib.hid hl
        rw [hl] at HC
        clear hl
        go_wp2_with fail
        refine (HC.out _).mono ?_
        rintro e w' ⟨rfl, rfl⟩
        go_wp2_with fail
        go_round
        case rel => exact ⟨k + 1, by omega, by go_num, fun j hj h => by
          rcases Nat.lt_or_ge j k with h' | h'
          · exact HJ.out j hj h'
          · obtain rfl : j = k := by omega
            exact HL.out⟩
        case measure => simp [intOf]; omega
    · have HF := Lib.hid (all_get (s := s) (p := letB) fun j hj => HJ.out j hj (by omega))
      have HZ := Lib.hid (size_toList s)
      by_cases h1 : 1 ≤ s.size
      · by_cases h2 : s.size ≤ 16
        · have HR := Lib.hid (show namedB s.toList = true by unfold namedB lettersB; rw [HF.out, HZ.out, decide_eq_true h1, decide_eq_true h2]; rfl)
          go_wp2_with fail
          go_ret
          exact ⟨ret_bool (by first | exact HR.out.symm | (rw [HR.out]; simp; omega)), rfl⟩
        · have HR := Lib.hid (show namedB s.toList = false by unfold namedB; rw [HZ.out, decide_eq_false h2, Bool.and_false, Bool.and_false])
          go_wp2_with fail
          go_ret
          exact ⟨ret_bool (by first | exact HR.out.symm | (rw [HR.out]; simp; omega)), rfl⟩
      · have HR := Lib.hid (show namedB s.toList = false by unfold namedB; rw [HZ.out, decide_eq_false h1, Bool.false_and, Bool.and_false])
        go_wp2_with fail
        go_ret
        exact ⟨ret_bool (by first | exact HR.out.symm | (rw [HR.out]; simp; omega)), rfl⟩
def prin2 (a : Nat) (c : UInt8) : Bool := decide (a ≤ c.toNat) && decide (c.toNat ≤ 126)
set_option maxHeartbeats 400000 in
theorem between_any (s : ByteArray) (a n : Nat) (w : World) (hs : s.size ≤ 9223372036854775807) : Calls Tryz.prog 152 #[.string s, .int .u8 (a : Int), .int .i64 (n : Int)] w fun e w' => e = .returned (.bool (prinL a s.toList && decide (s.size ≤ n))) ∧ w = w' := by
  go_enter Tryz.func152, Tryz.ntmps152
  go_wp2_with fail
  go_loop [7] (fun i => ∃ k : Nat, k ≤ s.size ∧ i = .int .i64 k ∧ Hid (∀ (j : Nat) (hj : j < s.size), j < k → prin2 a s[j] = true)) (fun i => s.size - (intOf i).toNat)
  case atStart => exact ⟨0, by omega, rfl, fun j _ h => by omega⟩
  case round =>
    obtain ⟨k, hk, rfl, HJ⟩ := hrel
    by_cases hlt : k < s.size
    · by_cases c1 : (s[k].toNat : Int) < (a : Int)
      · have HF := Lib.hid (not_all_get (p := prin2 a) hlt (by unfold prin2; rw [decide_eq_false (by omega)]; rfl))
        go_wp2_with fail
        go_ret
        exact ⟨ret_bool (by rw [show prinL a s.toList = false from HF.out, Bool.false_and]), rfl⟩
      · by_cases c2 : 126 < (s[k].toNat : Int)
        · have HF := Lib.hid (not_all_get (p := prin2 a) hlt (by unfold prin2; rw [decide_eq_false (p := s[k].toNat ≤ 126) (by omega), Bool.and_false]))
          go_wp2_with fail
          go_ret
          exact ⟨ret_bool (by rw [show prinL a s.toList = false from HF.out, Bool.false_and]), rfl⟩
        · have HL := Lib.hid (show prin2 a s[k] = true by unfold prin2; rw [decide_eq_true (by omega), decide_eq_true (by omega)]; rfl)
          go_wp2_with fail
          go_round
          case rel => exact ⟨k + 1, by omega, by go_num, fun j hj h => by
            rcases Nat.lt_or_ge j k with h' | h'
            · exact HJ.out j hj h'
            · obtain rfl : j = k := by omega
              exact HL.out⟩
          case measure => simp [intOf]; omega
    · have HF := Lib.hid (all_get (s := s) (p := prin2 a) fun j hj => HJ.out j hj (by omega))
      go_wp2_with fail
      go_ret
      exact ⟨ret_bool (by rw [show prinL a s.toList = true from HF.out, Bool.true_and]), rfl⟩
theorem head_get (s : ByteArray) (h : 0 < s.size) : s.toList.headD 0 = s[0] := by
  rw [ByteArray.toList_eq]
  obtain ⟨⟨l⟩⟩ := s
  cases l with
  | nil => simp [ByteArray.size] at h
  | cons a r => rfl
theorem empty_size (s : ByteArray) : s.toList.isEmpty = decide (s.size = 0) := by
  rw [← size_toList s]
  cases s.toList <;> simp
set_option maxHeartbeats 400000 in
theorem ident_any (s : ByteArray) (w : World) (hs : s.size ≤ 9223372036854775807) : Calls Tryz.prog 125 #[.string s] w fun e w' => e = .returned (.bool (idB s.toList)) ∧ Below w.heap.size w w' := by
  have HQ := Lib.hid (show idB s.toList = (!s.toList.isEmpty && (letB (s.toList.headD 0) && symB s.toList)) from (id_same _).symm)
  by_cases h0 : s.size = 0
  · have he : s.toList.isEmpty = true := by rw [empty_size, decide_eq_true h0]
    rw [he] at HQ
    go_enter Tryz.func125, Tryz.ntmps125
    go_wp2_with fail
    go_ret
    exact ⟨ret_bool (by rw [HQ.out]; rfl), Below.refl _ _⟩
  · have he : s.toList.isEmpty = false := by rw [empty_size, decide_eq_false h0]
    have hp : 0 < s.size := by omega
    rw [he, head_get s hp, Bool.not_false, Bool.true_and] at HQ
    have HC := Lib.hid (fun w => letter_any s[0] w)
    cases hl : letB s[0]
    · rw [hl] at HC HQ
      clear hl
      go_enter Tryz.func125, Tryz.ntmps125
      go_wp2_with fail
      refine (HC.out _).mono ?_
      rintro e w' ⟨rfl, rfl⟩
      go_wp2_with fail
      go_ret
      exact ⟨ret_bool (by rw [HQ.out]; rfl), Below.refl _ _⟩
    · rw [hl, Bool.true_and] at HQ
      rw [hl] at HC
      clear hl
      go_enter Tryz.func125, Tryz.ntmps125
      go_wp2_with fail
      refine (HC.out _).mono ?_
      rintro e w' ⟨rfl, rfl⟩
      go_wp2_with fail
      refine (sym_any s _ hs).mono ?_
      rintro e w' ⟨rfl, hb⟩
      have HB := Lib.hid hb
      clear hb
      go_wp2_with fail
      go_ret
      exact ⟨ret_bool (by rw [HQ.out]), HB.out⟩
set_option maxHeartbeats 400000 in
theorem rident_any (s : ByteArray) (w : World) (hs : s.size ≤ 9223372036854775807) : Calls Tryz.prog 81 #[.string s] w fun e w' => e = .returned (.bool (idB s.toList)) ∧ Below w.heap.size w w' := by
  have HQ := Lib.hid (show idB s.toList = (namedB s.toList && symB s.toList) from rfl)
  have HC := Lib.hid (fun w => rnamed_any s w hs)
  cases hl : namedB s.toList
  · rw [hl] at HC HQ
    clear hl
    go_enter Tryz.func81, Tryz.ntmps81
    go_wp2_with fail
    refine (HC.out _).mono ?_
    rintro e w' ⟨rfl, rfl⟩
    go_wp2_with fail
    go_ret
    exact ⟨ret_bool (by rw [HQ.out]; rfl), Below.refl _ _⟩
  · rw [hl, Bool.true_and] at HQ
    rw [hl] at HC
    clear hl
    go_enter Tryz.func81, Tryz.ntmps81
    go_wp2_with fail
    refine (HC.out _).mono ?_
    rintro e w' ⟨rfl, rfl⟩
    go_wp2_with fail
    refine (rsym_any s _ hs).mono ?_
    rintro e w' ⟨rfl, hb⟩
    have HB := Lib.hid hb
    clear hb
    go_wp2_with fail
    go_ret
    exact ⟨ret_bool (by rw [HQ.out]), HB.out⟩
end Go.Proofs.YthpioplpfmlgcaaGreatDoor.Sp
namespace Go.Proofs.YthpioplpfmlgcaaGreatDoor.El
open Go.Proofs.YthpioplpfmlgcaaGreatDoor.At
open Go.Proofs.YthpioplpfmlgcaaGreatDoor.Ch
open Go.Proofs.YthpioplpfmlgcaaGreatDoor.Sp
open Go.Proofs.YthpioplpfmlgcaaGreatDoor.Sy
open Go.RowKit
theorem unsc_fit {w : World} {n : Tre} {c : Array Value} (h : NodAt w n c) : (unsc n).text.size ≤ 9223372036854775807 := by
  obtain ⟨A2, cap2, rfl, hsz, _, _, hk⟩ := h.form
  unfold unsc
  split
  · split
    · next b ks hks =>
      split
      · next x hx =>
        obtain ⟨_, A3, _, _, _, _, _, _, hk3, _⟩ := hk.at_ (i := 0) (t := b) (by rw [hks]; rfl)
        obtain ⟨_, _, _, _, _, hxz, _⟩ := hk3.at_ (i := 0) (t := x) (by rw [hx]; rfl)
        exact hxz
      · exact hsz
    · exact hsz
  · exact hsz
/-- the token of an item, whether it has a role or none -/
def tokS (rs : List Rul) (n : Tre) : ByteArray := if operB rs n = true then (unsc n).text else hashS
def rolB (rs : List Rul) (n : Tre) : Bool := operB rs n || !(decide (n.kind = 2)) || idB n.text.data.toList
theorem tokN_eq (rs : List Rul) (n : Tre) : tokN rs n = if rolB rs n = true then some (tokS rs n) else none := by
  unfold tokN tokS rolB
  cases operB rs n
  · by_cases h : n.kind = 2
    · cases idB n.text.data.toList <;> simp [h]
    · simp [h]
  · simp
theorem toksN_app (rs : List Rul) : ∀ (a b : List Tre), toksN rs (a ++ b) = match toksN rs a with
    | .inl ts => (match toksN rs b with
      | .inl us => .inl (ts ++ us)
      | .inr i => .inr (a.length + i))
    | .inr i => .inr i
  | [], b => by
    simp only [List.nil_append, toksN, List.length_nil, Nat.zero_add]
    cases toksN rs b <;> rfl
  | x :: a, b => by
    simp only [List.cons_append, toksN]
    cases tokN rs x with
    | none => rfl
    | some t =>
      dsimp only
      rw [toksN_app rs a b]
      cases toksN rs a with
      | inr i => rfl
      | inl ts =>
        dsimp only
        cases toksN rs b with
        | inl us => rfl
        | inr i => simp only [List.length_cons]; congr 1; omega
theorem toksN_snoc {rs : List Rul} {l : List Tre} {k : Nat} {x : Tre} {ts : List ByteArray} (hx : l[k]? = some x) (h : toksN rs (l.take k) = .inl ts) (hr : rolB rs x = true) : toksN rs (l.take (k + 1)) = .inl (ts ++ [tokS rs x]) := by
  rw [List.take_add_one, hx, Option.toList_some, toksN_app, h]
  simp only [toksN, tokN_eq, if_pos hr]
theorem toksN_stop {rs : List Rul} {l : List Tre} {k : Nat} {x : Tre} {ts : List ByteArray} (hx : l[k]? = some x) (h : toksN rs (l.take k) = .inl ts) (hr : rolB rs x = false) : toksN rs l = .inr k := by
  obtain ⟨hk, hx'⟩ := List.getElem?_eq_some_iff.1 hx
  have e : l = l.take k ++ x :: l.drop (k + 1) := by rw [← hx', ← List.drop_eq_getElem_cons hk, List.take_append_drop]
  have hkl : (l.take k).length = k := by rw [List.length_take]; omega
  have := toksN_app rs (l.take k) (x :: l.drop (k + 1))
  rw [← e, h] at this
  rw [this]
  simp only [toksN, tokN_eq, hr, Bool.false_eq_true, if_false, hkl, Nat.add_zero]
theorem toksN_len {rs : List Rul} : ∀ {l : List Tre} {ts : List ByteArray}, toksN rs l = .inl ts → ts.length = l.length
  | [], ts, h => by simp only [toksN, Sum.inl.injEq] at h; rw [← h]; rfl
  | x :: l, ts, h => by
    simp only [toksN] at h
    cases ht : tokN rs x with
    | none => rw [ht] at h; cases h
    | some t =>
      rw [ht] at h
      dsimp only at h
      cases hl : toksN rs l with
      | inr i => rw [hl] at h; cases h
      | inl us =>
        rw [hl] at h
        simp only [Sum.inl.injEq] at h
        rw [← h, List.length_cons, List.length_cons, toksN_len hl]
set_option maxRecDepth 100000 in
set_option maxHeartbeats 1600000 in
theorem token_any (g : Nat) (A : Option Addr) (cap : Nat) (rs : List Rul) (n : Tre) (c : Array Value) (w : World) (hR : RdrAt w g A cap rs) (hN : NodAt w n c) (hne : scrB n.kind = true → n.kids ≠ []) : Calls Tryz.prog 82 #[.pointer (some ⟨g, 0, none⟩), .agg c] w fun e w' => e = .returned (.tuple #[.string (tokS rs n), .bool (rolB rs n)]) ∧ Below w.heap.size w w' := by
  obtain ⟨A2, cap2, rfl, hsz, hl, hc, hk⟩ := hN.form
  have hb0 := bel_alloc w (.cells #[.int .i64 n.kind, .string n.text, .int .i64 n.cols, .slice A2 n.kids.length cap2] 25)
  have HB := Lib.hid hb0
  have K1 := Lib.hid (Blk.new w 25 #[.int .i64 n.kind, .string n.text, .int .i64 n.cols, .slice A2 n.kids.length cap2])
  have HR := Lib.hid (hR.keep hb0)
  have HN := Lib.hid (hN.keep hb0)
  have HNE := Lib.hid hne
  have HTZ := Lib.hid hsz
  clear hR hN hk hne hb0
  go_enter Tryz.func82, Tryz.ntmps82
  go_upto_region 1 with (fail)
  generalize w.alloc (.cells #[.int .i64 n.kind, .string n.text, .int .i64 n.cols, .slice A2 n.kids.length cap2] 25) = w1 at *
  have k0 := K1.out.cell 0
  have k1 := K1.out.cell 1
  have k2 := K1.out.cell 2
  have k3 := K1.out.cell 3
  go_wp2_with fail
  refine (operator_any g A cap rs n _ w1 HR.out HN.out HNE.out).mono ?_
  rintro e w2 ⟨rfl, hb⟩
  replace K1 := Lib.hid (keep hb K1.out)
  replace HB := Lib.hid (HB.out.trans (hb.mono HB.out.size))
  clear hb k0 k1 k2 k3
  have k0 := K1.out.cell 0
  have k1 := K1.out.cell 1
  cases hop : operB rs n
  · by_cases h2 : n.kind = 2
    · have q : (n.kind == 2) = true := beq_iff_eq.2 h2
      have q' : (n.kind != 2) = false := by rw [bne, q]; rfl
      have HS := Lib.hid (show tokS rs n = hashS by unfold tokS; rw [hop]; rfl)
      have HO := Lib.hid (show rolB rs n = idB n.text.data.toList by unfold rolB; rw [hop, decide_eq_true h2]; rfl)
      clear h2 hop
      go_wp2_with fail
      refine (ident_any n.text w2 HTZ.out).mono ?_
      rintro e w3 ⟨rfl, hb⟩
      replace HB := Lib.hid (HB.out.trans (hb.mono HB.out.size))
      clear hb
      go_wp2_with fail
      exact bodyPost_ret (v := .tuple #[.string ⟨#[35]⟩, .bool (idB n.text.toList)]) (by simp [results, Tryz.results82, go_sem]) rfl ⟨by rw [HS.out, HO.out, ByteArray.toList_eq]; rfl, HB.out⟩
    · have q : (n.kind == 2) = false := beq_eq_false_iff_ne.2 h2
      have q' : (n.kind != 2) = true := by rw [bne, q]; rfl
      have HS := Lib.hid (show tokS rs n = hashS by unfold tokS; rw [hop]; rfl)
      have HO := Lib.hid (show rolB rs n = true by unfold rolB; rw [hop, decide_eq_false h2]; rfl)
      clear h2 hop
      go_wp2_with fail
      exact bodyPost_ret (v := .tuple #[.string ⟨#[35]⟩, .bool true]) (by simp [results, Tryz.results82, go_sem]) rfl ⟨by rw [HS.out, HO.out]; rfl, HB.out⟩
  · have HS := Lib.hid (show tokS rs n = (unsc n).text by unfold tokS; rw [hop]; rfl)
    have HO := Lib.hid (show rolB rs n = true by unfold rolB; rw [hop]; rfl)
    clear hop
    go_wp2_with fail
    exact bodyPost_ret (v := .tuple #[.string (unsc n).text, .bool true]) (by simp [results, Tryz.results82, go_sem]) rfl ⟨by rw [HS.out, HO.out], HB.out⟩
/-- tokens that a call has made -/
abbrev OwnToks (w : World) (B : Nat) (v : Value) (ts : List ByteArray) : Prop := w.ownsRow B 9 1 v ts.length (ts.map Value.string)
theorem OwnToks.snoc {w : World} {B : Nat} {v : Value} {ts : List ByteArray} {t : ByteArray} {n : Nat} {xs : List Value} (hn : n = ts.length + 1) (hx : xs = ts.map Value.string ++ [.string t]) (h : w.ownsRow B 9 1 v n xs) : OwnToks w B v (ts ++ [t]) := by
  unfold OwnToks
  rw [List.length_append, List.map_append]
  subst hn hx
  exact h
/-- behind tokens -/
def ToksP (rs : List Rul) (l : List Tre) (w : World) (e : Ending) (w' : World) : Prop := (match toksN rs l with
  | .inl ts => ∃ v, e = .returned (.tuple #[v, .int .i64 0, .bool true]) ∧ OwnToks w' w.heap.size v ts
  | .inr i => e = .returned (.tuple #[.slice none 0 0, .int .i64 (i : Int), .bool false])) ∧ Below w.heap.size w w'
set_option maxRecDepth 100000 in
set_option maxHeartbeats 4000000 in
theorem tokens_any (g : Nat) (A A1 : Option Addr) (cap cap1 : Nat) (rs : List Rul) (l : List Tre) (w : World) (hR : RdrAt w g A cap rs) (hN : KidsAt w A1 l) (hne : ∀ n ∈ l, scrB n.kind = true → n.kids ≠ []) (hn : l.length ≤ 1000000) : Calls Tryz.prog 52 #[.pointer (some ⟨g, 0, none⟩), .slice A1 l.length cap1] w (ToksP rs l w) := by
  obtain ⟨i0, hi, hz0, hz1, hz2⟩ := info_parts info_str
  have HR0 := Lib.hid hR
  have HN0 := Lib.hid hN
  have HNE := Lib.hid hne
  clear hR hN hne
  go_enter Tryz.func52, Tryz.ntmps52
  go_wp2_with fail
  go_loopw [4, 13] (fun v i wr => ∃ (k : Nat) (ts : List ByteArray), k ≤ l.length ∧ i = .int .i64 k ∧ Hid (toksN rs (l.take k) = .inl ts) ∧ Hid (OwnToks wr w.heap.size v ts) ∧ Hid (Below w.heap.size w wr)) (fun _ i _ => l.length - (intOf i).toNat)
  case atStart => exact ⟨0, [], by omega, rfl, Lib.hid rfl, Lib.hid (World.ownsRow_nil _ _ _ _), Lib.hid (Below.refl _ _)⟩
  case round =>
    obtain ⟨k, ts, hk, rfl, HT, HO, HB⟩ := hrel
    by_cases hlt : k < l.length
    · obtain ⟨x, hx⟩ : ∃ x, l[k]? = some x := ⟨_, List.getElem?_eq_getElem hlt⟩
      obtain ⟨ad, A3, cap3, rfl, hadl, hsz, hl3, hc3, hk3, hn3, d0, d1, d2, d3⟩ := (HN0.out.keep HB.out).at_ hx
      have HX := Lib.hid hx
      have HNX := Lib.hid hn3
      have HNEX := Lib.hid (HNE.out x (List.mem_of_getElem? hx))
      have HLEN := Lib.hid (show ts.length = k by have := toksN_len HT.out; rw [List.length_take] at this; omega)
      have hba := bel_alloc wr (.cells #[.int .i64 x.kind, .string x.text, .int .i64 x.cols, .slice A3 x.kids.length cap3] 25)
      clear hx hn3 hk3
      go_upto_region 4 with (fail)
      have HBW := Lib.hid (HB.out.trans (hba.mono HB.out.size))
      have HO1 := Lib.hid (show OwnToks _ w.heap.size u4 ts from World.ownsRow.alloc HO.out (.cells #[.int .i64 x.kind, .string x.text, .int .i64 x.cols, .slice A3 x.kids.length cap3] 25))
      have K1 := Lib.hid (Blk.new wr 25 #[.int .i64 x.kind, .string x.text, .int .i64 x.cols, .slice A3 x.kids.length cap3])
      replace HNX := Lib.hid (HNX.out.keep hba)
      have HR := Lib.hid (HR0.out.keep HBW.out)
      clear hba HO HB d0 d1 d2 d3 hadl
      generalize wr.alloc (.cells #[.int .i64 x.kind, .string x.text, .int .i64 x.cols, .slice A3 x.kids.length cap3] 25) = w1 at *
      have k0 := K1.out.cell 0
      have k1 := K1.out.cell 1
      have k2 := K1.out.cell 2
      have k3 := K1.out.cell 3
      go_wp2_with fail
      refine (token_any g A cap rs x _ w1 HR.out HNX.out HNEX.out).mono ?_
      rintro e w2 ⟨rfl, hb⟩
      obtain ⟨cs2, HO2⟩ : ∃ _ : Unit, Hid (OwnToks w2 w.heap.size u4 ts) := ⟨(), Lib.hid (World.ownsRow.kept (row := none) HO1.out ⟨hb.os, hb.tape, hb.output, hb.size, fun i hi _ => hb.block i hi⟩ (by cases u4.ownBlock <;> simp))⟩
      have HB := Lib.hid (HBW.out.trans (hb.mono HBW.out.size))
      have HFIT := Lib.hid (show (tokS rs x).size ≤ 9223372036854775807 by
        unfold tokS
        split
        · exact unsc_fit HNX.out
        · decide)
      clear hb k0 k1 k2 k3 K1 HNX HO1 HBW
      cases hr : rolB rs x
      · have HS := Lib.hid (toksN_stop HX.out HT.out hr)
        clear hr
        go_wp2_with fail
        exact bodyPost_ret (v := .tuple #[.slice none 0 0, .int .i64 (k : Int), .bool false]) (by simp [results, Tryz.results52, go_sem]) rfl ⟨by rw [HS.out], HB.out⟩
      · have HS := Lib.hid (toksN_snoc HX.out HT.out hr)
        clear hr
        generalize tokS rs x = tx at *
        obtain ⟨A2, cap2, rfl, hcl2, hcap2, _⟩ : ∃ A2 cap2, u4 = .slice A2 ts.length cap2 ∧ ts.length ≤ cap2 ∧ cap2 ≤ 9223372036854775807 ∧ True := by
          obtain ⟨h1, h2⟩ := HO2.out
          rcases h2 with ⟨rfl, h0⟩ | ⟨gq, cap, cur, rfl, hg, hb, hn, hc, hs, ht⟩
          · exact ⟨none, 0, by rw [h0], by omega, by omega, trivial⟩
          · exact ⟨_, cap, rfl, by omega, by unfold maxLen at *; omega, trivial⟩
        have hown := World.ownsRow.alloc HO2.out (.cells #[.string tx] 9)
        have HBL := Lib.hid (World.ownsRow.lt HO2.out)
        have HSZ := Lib.hid HB.out.size
        go_wp2_with (at_builtin; refine wpList_append_own _ rfl (.tmp 27) (.tmp 29) 39 rfl w.heap.size 9 i0 (.string ⟨#[]⟩) 1 16 Tryz.underlying39 hi hz0 hz1 hz2 rfl (by decide) _ _ _ rfl hown ⟨w2.heap.size, 0, none⟩ 1 1 [.string tx] rfl rfl (Ch.cells_new _ _ _) ?c2a ?c3a ?c4a ?c5a ?_)
        case c2a => intro u hu; simp at hu; subst hu; rfl
        case c3a => have := HLEN.out; unfold maxLen; omega
        case c4a => have := HLEN.out; omega
        case c5a => have := HSZ.out; simp; omega
        intro v' w3 hown' hgrow _
        have NB := Lib.hid ((HB.out.alloc HB.out.size (.cells #[.string tx] 9)).grown hgrow (by have := HSZ.out; simp; omega) (fun k hk => (HBL.out k hk).1))
        have NO := Lib.hid (OwnToks.snoc rfl rfl hown')
        clear hown hown' hgrow HO2 HB
        go_wp2_with fail
        go_roundw
        case rel => exact ⟨k + 1, ts ++ [tx], by omega, by go_num, HS, NO, NB⟩
        case measure => simp [intOf]; omega
    · obtain rfl : k = l.length := by omega
      have HT := Lib.hid (show toksN rs l = .inl ts by have := HT.out; rwa [List.take_length] at this)
      go_wp2_with fail
      exact bodyPost_ret (v := .tuple #[u4, .int .i64 0, .bool true]) (by simp [results, Tryz.results52, go_sem]) rfl ⟨by rw [HT.out]; exact ⟨_, rfl, HO.out⟩, HB.out⟩
end Go.Proofs.YthpioplpfmlgcaaGreatDoor.El
