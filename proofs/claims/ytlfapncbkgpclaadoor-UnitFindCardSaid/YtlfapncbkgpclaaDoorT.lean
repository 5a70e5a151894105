/- Text returns the text of every valid dimension: the parts with exponents that are not 0, joined; premise: the table of powers of ten is as the library lays it. -/
import Derived.Test.YtlfapncbkgpclaaDoorU4
import Derived.Test.YtlfapncbkgpclaaDoorShelf
import Derived.Lib.SmallJoins
import Derived.Lib.ItoaLen
import Derived.Lib.Join
namespace Go.Proofs.YtlfapncbkgpclaaDoor
open Go.RowKit

def bs0 : ByteArray := ⟨#[109]⟩
def bs1 : ByteArray := ⟨#[107, 103]⟩
def bs2 : ByteArray := ⟨#[115]⟩
def bs3 : ByteArray := ⟨#[65]⟩
def bs4 : ByteArray := ⟨#[75]⟩
def bs5 : ByteArray := ⟨#[109, 111, 108]⟩
def bs6 : ByteArray := ⟨#[99, 100]⟩
def baseB : Nat → ByteArray
  | 0 => bs0 | 1 => bs1 | 2 => bs2 | 3 => bs3 | 4 => bs4 | 5 => bs5 | 6 => bs6 | _ => ⟨#[]⟩
abbrev baseV : Value := .agg #[.string ⟨#[109]⟩, .string ⟨#[107, 103]⟩, .string ⟨#[115]⟩, .string ⟨#[65]⟩, .string ⟨#[75]⟩, .string ⟨#[109, 111, 108]⟩, .string ⟨#[99, 100]⟩]
theorem index_base0 (w : World) : (Instr.index 70 baseV (.int .i64 0)).run Tryd.prog w = .ok (.string bs0) w := by kernel_rfl
theorem index_base1 (w : World) : (Instr.index 70 baseV (.int .i64 1)).run Tryd.prog w = .ok (.string bs1) w := by kernel_rfl
theorem index_base2 (w : World) : (Instr.index 70 baseV (.int .i64 2)).run Tryd.prog w = .ok (.string bs2) w := by kernel_rfl
theorem index_base3 (w : World) : (Instr.index 70 baseV (.int .i64 3)).run Tryd.prog w = .ok (.string bs3) w := by kernel_rfl
theorem index_base4 (w : World) : (Instr.index 70 baseV (.int .i64 4)).run Tryd.prog w = .ok (.string bs4) w := by kernel_rfl
theorem index_base5 (w : World) : (Instr.index 70 baseV (.int .i64 5)).run Tryd.prog w = .ok (.string bs5) w := by kernel_rfl
theorem index_base6 (w : World) : (Instr.index 70 baseV (.int .i64 6)).run Tryd.prog w = .ok (.string bs6) w := by kernel_rfl
theorem index_base (k : Nat) (hk : k < 7) (w : World) : (Instr.index 70 baseV (.int .i64 k)).run Tryd.prog w = .ok (.string (baseB k)) w := by
  match k, hk with
  | 0, _ => exact index_base0 w
  | 1, _ => exact index_base1 w
  | 2, _ => exact index_base2 w
  | 3, _ => exact index_base3 w
  | 4, _ => exact index_base4 w
  | 5, _ => exact index_base5 w
  | 6, _ => exact index_base6 w
theorem base_size (k : Nat) : (baseB k).size ≤ 3 := by
  match k with
  | 0 | 1 | 2 | 3 | 4 | 5 | 6 => decide
  | k + 7 => exact Nat.zero_le _
set_option maxHeartbeats 400000 in
theorem base_any (w : World) : Calls Tryd.prog 54 #[] w fun e w' => e = .returned baseV ∧ Below w.heap.size w w' := by
  go_enter Tryd.func54, Tryd.ntmps54
  go_wp2_with fail
  go_returns
  exact ⟨rfl, by repeat' (first | (with_reducible exact Below.refl _ _) | (with_reducible refine Below.alloc ?_ ?_ _) | go_size)⟩
/-- the parts of a text, exponent by exponent -/
def partOf (i : Nat) (x : Int) : List ByteArray := if x = 0 then [] else if x = 1 then [baseB i] else [baseB i ++ ⟨#[94]⟩ ++ ⟨(Lib.itoa x).toArray⟩]
def partsOf (d : D7) : Nat → List ByteArray
  | 0 => []
  | k + 1 => partsOf d k ++ partOf k (d.at k)
theorem info9 : (Tryd.prog.info? 9).map (fun i => (i.zero, i.size, i.bytes)) = some (some (.string ⟨#[]⟩), 1, 16) := by kernel_rfl
def Tab (w : World) : Prop := ∀ w' : World, Below w.heap.size w w' → Lib.TabIs Tryd.prog w' "internal/strconv.uint64pow10" .u64 Lib.pow10Tab
theorem below_grow' (w : World) (k : Nat) (os : Array Obj) : Below w.heap.size w (Sort.grow (w.drewN k) os) :=
  ⟨rfl, rfl, rfl, by simp [Sort.grow], fun i hi => by
    show (w.heap ++ os)[i]? = w.heap[i]?
    rw [Array.getElem?_append_left hi]⟩
theorem itoa_any (n : Int) (w0 w : World) (ht : Tab w0) (hb : Below w0.heap.size w0 w) (h0 : -9223372036854775808 ≤ n) (h1 : n ≤ 9223372036854775807) :
    Calls Tryd.prog 55 #[.int .i64 n] w fun e w' => e = .returned (.string ⟨(Lib.itoa n).toArray⟩) ∧ Below w.heap.size w w' :=
  (Tryd.strconv_Itoa n h0 h1 w (ht w hb)).mono fun _ _ ⟨he, k, os, hw⟩ => ⟨he, by rw [hw]; exact below_grow' w k os⟩
theorem own_below {w w' : World} {base : Nat} {e : TypeId} {size : Nat} {v : Value} {n : Nat} {xs : List Value} (h : w.ownsRow base e size v n xs) (hb : Below w.heap.size w w') : w'.ownsRow base e size v n xs :=
  h.kept (row := none) ⟨hb.os, hb.tape, hb.output, hb.size, fun i hi _ => hb.block i hi⟩ (by cases v.ownBlock <;> simp)
theorem own_ne {w : World} {base : Nat} {e : TypeId} {size : Nat} {v : Value} {n : Nat} {xs : List Value} (h : w.ownsRow base e size v n xs) {g : Nat} (hg : g < base) : some g ≠ v.ownBlock := fun he => by
  have := (h.lt g he.symm).1
  omega
/-- what a round that appends leaves -/
theorem round_app {B : Nat} {d : D7} {v v' : Value} {n : Nat} {xs ys : List Value} {w wr w1 : World} {o : Obj} (hown : wr.ownsRow (B + 1) 9 1 v n xs) (hblk : Blk wr B 23 d.c) (hbel : Below B w wr) (hB : B < wr.heap.size)
    (hg : (wr.alloc o).grownBy w1 v.ownBlock) (hown' : w1.ownsRow (B + 1) 9 1 v' (n + 1) ys) : Blk w1 B 23 d.c ∧ Below B w w1 ∧ w1.ownsRow (B + 1) 9 1 v' (n + 1) ys :=
  ⟨(hblk.alloc o).grown hg (own_ne hown (by omega)), (hbel.alloc (by omega) o).grown hg (by rw [World.size_alloc]; omega) (fun k hk => by have := (hown.lt k hk).1; omega), hown'⟩
theorem parts_one (d : D7) (k : Nat) (h : d.at k = 1) : partsOf d (k + 1) = partsOf d k ++ [baseB k] := by simp [partsOf, partOf, h]
theorem parts_zero (d : D7) (k : Nat) (h : d.at k = 0) : partsOf d (k + 1) = partsOf d k := by simp [partsOf, partOf, h]
theorem parts_else (d : D7) (k : Nat) (h0 : ¬ d.at k = 0) (h1 : ¬ d.at k = 1) : partsOf d (k + 1) = partsOf d k ++ [baseB k ++ ⟨#[94]⟩ ++ ⟨(Lib.itoa (d.at k)).toArray⟩] := by simp [partsOf, partOf, h0, h1]
theorem parts_le (d : D7) (k : Nat) : (partsOf d k).length ≤ k := by
  induction k with
  | zero => simp [partsOf]
  | succ k ih =>
    have : (partOf k (d.at k)).length ≤ 1 := by unfold partOf; split <;> (try split) <;> simp
    simp only [partsOf, List.length_append]; omega
/-- the text of a valid dimension -/
def textB (d : D7) : ByteArray := if partsOf d 7 = [] then ⟨#[49]⟩ else ⟨(Lib.join ((partsOf d 7).map (·.data.toList)) [32]).toArray⟩
theorem part_len (d : D7) (hd : d.ok = true) (k : Nat) (hk : k ≤ 7) : ∀ x ∈ partsOf d k, x.data.toList.length ≤ 25 := by
  induction k with
  | zero => simp [partsOf]
  | succ k ih =>
    intro x hx
    simp only [partsOf, List.mem_append] at hx
    rcases hx with hx | hx
    · exact ih (by omega) x hx
    · have hb := base_size k
      have bd := ok_at hd k (by omega)
      have hi := Lib.itoa_length_le (d.at k) (by omega) (by omega)
      unfold partOf at hx
      split at hx
      · simp at hx
      · split at hx
        · rw [List.mem_singleton] at hx
          subst hx
          rw [Array.length_toList]
          exact Nat.le_trans hb (by omega)
        · rw [List.mem_singleton] at hx
          subst hx
          rw [ByteArray.data_append, ByteArray.data_append, Array.length_toList, Array.size_append, Array.size_append]
          have hb' : (baseB k).data.size ≤ 3 := hb
          simp only [List.size_toArray, List.length_cons, List.length_nil]
          omega
theorem lens_bound (ps : List ByteArray) (h : ∀ x ∈ ps, x.data.toList.length ≤ 25) : Lib.lens (ps.map (·.data.toList)) ≤ 25 * ps.length := by
  induction ps with
  | nil => simp [Lib.lens]
  | cons x r ih =>
    have h1 := h x List.mem_cons_self
    have h2 := ih fun y hy => h y (List.mem_cons_of_mem _ hy)
    simp only [Lib.lens, List.map_cons, List.sum_cons, List.length_cons] at h2 ⊢
    omega
theorem join_bound (d : D7) (hd : d.ok = true) (k : Nat) (hk : k ≤ 7) : (Lib.join ((partsOf d k).map (·.data.toList)) [32]).length ≤ 140737488355328 := by
  have h1 := part_len d hd k hk
  have h2 := parts_le d k
  generalize partsOf d k = ps at *
  cases ps with
  | nil => simp [Lib.join]
  | cons x r =>
    have := lens_bound (x :: r) h1
    rw [List.map_cons] at this ⊢
    rw [Lib.join_length]
    simp only [List.length_cons, List.length_nil, List.length_map] at this h2 ⊢
    omega
set_option maxRecDepth 100000 in
set_option maxHeartbeats 800000 in
theorem text_ok (d : D7) (w : World) (hd : d.ok = true) (ht : Tab w) : Calls Tryd.prog 29 #[d.v] w fun e w' => e = .returned (.string (textB d)) ∧ Below w.heap.size w w' := by
  have HD := Lib.hid hd
  clear hd
  obtain ⟨i0, hi, hz0, hz1, hz2⟩ := info_parts info9
  go_enter Tryd.func29, Tryd.ntmps29
  go_wp2_with fail
  refine (valid_any d _).mono ?_
  rintro e w' ⟨rfl, rfl⟩
  rw [HD.out]
  go_wp2_with fail
  refine (base_any _).mono ?_
  rintro e w1 ⟨rfl, hb⟩
  have H0 := Lib.hid (below2 hb)
  have Kd := Lib.hid (keep hb ((Blk.new w 23 d.c).alloc _))
  clear hb
  go_wp2_with fail
  go_loopw [3, 10] (fun v i wr => ∃ k : Nat, k ≤ 7 ∧ i = .int .i64 k ∧ wr.ownsRow (w.heap.size + 1) 9 1 v (partsOf d k).length ((partsOf d k).map Value.string) ∧ Blk wr w.heap.size 23 d.c ∧ Below w.heap.size w wr) (fun _ i _ => 7 - (intOf i).toNat)
  case atStart => exact ⟨0, by omega, rfl, World.ownsRow_nil _ _ _ _, Kd.out, H0.out⟩
  case round =>
    obtain ⟨k, hk, rfl, hown, hblk, hbel⟩ := hrel
    have hpl := parts_le d k
    by_cases hlt : k < 7
    · have hx := hblk.cell k
      rw [cell_dim d k hlt] at hx
      have hix := fun w => index_base k hlt w
      have hB := hblk.lt
      have bd := ok_at HD.out k hlt
      have Hp1 := Lib.hid (parts_one d k)
      have Hp0 := Lib.hid (parts_zero d k)
      have Hpe := Lib.hid (parts_else d k)
      generalize d.at k = x at hx Hp1 Hp0 Hpe bd
      by_cases h1 : x = 1
      · have hP := Hp1.out h1
        clear Hp1 Hp0 Hpe
        subst h1
        have HP := Lib.hid hP
        clear hP
        go_wp2_with (at_builtin; refine wpList_append_own _ rfl (.tmp 19) (.tmp 21) 83 rfl (w.heap.size + 1) 9 i0 (.string ⟨#[]⟩) 1 16 Tryd.underlying83 hi hz0 hz1 hz2 rfl (by decide) _ _ _ rfl (hown.alloc _) ⟨wr.heap.size, 0, none⟩ 1 1 [.string (baseB k)] rfl rfl ?c1 ?c2 ?c3 ?c4 ?c5 ?_)
        case c1 => intro j u hj; match j, hj with | 0, hj => simp at hj; subst hj; simp [Addr.add]
        case c2 => intro u hu; simp at hu; subst hu; rfl
        case c3 => unfold maxLen; omega
        case c4 => omega
        case c5 => simp; omega
        · intro v' w2 hown' hgrow _
          have R := round_app hown hblk hbel hB hgrow hown'
          clear hown' hgrow hown hblk hbel hx hix
          go_wp2
          go_roundw
          case rel => exact ⟨k + 1, by omega, by go_num, by rw [HP.out]; simpa using R.2.2, R.1, R.2.1⟩
          case measure => simp [intOf]; omega
      · have h1' : (x == 1) = false := by simpa using h1
        by_cases h0 : x = 0
        · have hP := Hp0.out h0
          clear Hp1 Hp0 Hpe h1 h1'
          subst h0
          have HP := Lib.hid hP
          clear hP
          have HO := Lib.hid hown
          clear hown
          go_wp2_with fail
          go_roundw
          case rel => exact ⟨k + 1, by omega, by go_num, by rw [HP.out]; exact HO.out, hblk, hbel⟩
          case measure => simp [intOf]; omega
        · have h0' : (x != 0) = true := by simpa using h0
          have HP := Lib.hid (Hpe.out h0 h1)
          clear Hp1 Hp0 Hpe h1 h0
          have hsz := base_size k
          have hil := Lib.itoa_length_le x (by omega) (by omega)
          go_wp2_with fail
          refine (itoa_any x w wr ht hbel (by omega) (by omega)).mono ?_
          rintro e w2 ⟨rfl, hb2⟩
          have hown2 := own_below hown hb2
          have hblk2 := keep hb2 hblk
          have hbel2 := hbel.trans (hb2.mono (by omega))
          have hB2 := hblk2.lt
          have hzi : (⟨(Lib.itoa x).toArray⟩ : ByteArray).size ≤ 21 := by simpa [ByteArray.size] using hil
          have HI := Lib.hid hzi
          generalize hit : (⟨(Lib.itoa x).toArray⟩ : ByteArray) = it at hzi HP
          clear hown hblk hbel hb2 hx hix hil hit HI
          go_wp2_with (at_builtin; refine wpList_append_own _ rfl (.tmp 28) (.tmp 36) 83 rfl (w.heap.size + 1) 9 i0 (.string ⟨#[]⟩) 1 16 Tryd.underlying83 hi hz0 hz1 hz2 rfl (by decide) _ _ _ rfl (hown2.alloc _) ⟨w2.heap.size, 0, none⟩ 1 1 [.string (baseB k ++ ⟨#[94]⟩ ++ it)] rfl rfl ?c1e ?c2e ?c3e ?c4e ?c5e ?_)
          case c1e => intro j u hj; match j, hj with | 0, hj => simp at hj; subst hj; simp [Addr.add]
          case c2e => intro u hu; simp at hu; subst hu; rfl
          case c3e => unfold maxLen; omega
          case c4e => omega
          case c5e => simp; omega
          · intro v' w3 hown' hgrow _
            have R := round_app hown2 hblk2 hbel2 hB2 hgrow hown'
            clear hown' hgrow hown2 hblk2 hbel2
            go_wp2
            go_roundw
            case rel => exact ⟨k + 1, by omega, by go_num, by rw [HP.out]; simpa using R.2.2, R.1, R.2.1⟩
            case measure => simp [intOf]; omega
    · obtain rfl : k = 7 := by omega
      clear hblk hlt hk
      have HT : Hid (textB d = if partsOf d 7 = [] then ⟨#[49]⟩ else ⟨(Lib.join ((partsOf d 7).map (·.data.toList)) [32]).toArray⟩) := rfl
      have hjl := join_bound d HD.out 7 (by omega)
      generalize partsOf d 7 = ps at *
      rcases hown.2 with ⟨rfl, hn⟩ | ⟨g, cap, cur, rfl, hg, hh, hnc, hcm, hcs, hct⟩
      · have hps : ps = [] := List.eq_nil_of_length_eq_zero hn
        subst hps
        clear hown hn
        go_wp2_with fail
        go_ret
        exact ⟨by rw [HT.out]; rfl, hbel⟩
      · by_cases hps : ps = []
        · subst hps
          clear hown hh hct hcs
          go_wp2_with fail
          go_ret
          exact ⟨by rw [HT.out]; rfl, hbel⟩
        · have hpos : (((ps.length : Nat) : Int) == 0) = false := by
            cases ps with
            | nil => exact absurd rfl hps
            | cons x r => simp; omega
          have HC : Hid (∀ (j : Nat) x, ps[j]? = some x → wr.cell? ⟨g, 0 + j, none⟩ = some (.string x)) := fun j x hx => by
            have := hown.cells (g := g) rfl j (.string x) (by rw [List.getElem?_map, hx]; rfl)
            rw [Nat.zero_add]
            by_cases hj : j = 0
            · subst hj; exact this
            · simpa [Addr.add, hj] using this
          have hgl : g < wr.heap.size := (hown.lt g rfl).2
          have HPS := Lib.hid hps
          clear hps hown hh hct hcs
          go_wp2_with fail
          refine (Tryd.strings_Join g 0 cap ps ⟨#[32]⟩ _ HC.out hgl (by omega) hnc hjl).mono ?_
          rintro e w2 ⟨rfl, hb2⟩
          go_wp2_with fail
          go_ret
          exact ⟨by rw [HT.out, if_neg HPS.out]; rfl, hbel.trans (hb2.mono hbel.size)⟩
end Go.Proofs.YtlfapncbkgpclaaDoor
