/- The two Valid functions of dimensions return whether all seven exponents lie between -100 and 100; for every dimension. -/
import Derived.Test.YtlfapncbkgpclaaDoorProg
import Derived.WalkKit
import Derived.WalkSpells
import Derived.WalkLawsBesides
import Derived.Handy
import Derived.Lib.Hide
import Derived.Below
import Derived.Laws.OwnMore
import Derived.Deep.Draws
import Derived.Laws.Rows
namespace Go.Proofs.YtlfapncbkgpclaaDoor
open Go.RowKit

def Blk (w : World) (g : Nat) (t : TypeId) (cs : Array Value) : Prop := w.heap[g]? = some (.cells cs t (0, 0))

section
variable {w w' : World} {g : Nat} {t : TypeId} {cs : Array Value}
theorem Blk.lt (h : Blk w g t cs) : g < w.heap.size := by
  rcases Nat.lt_or_ge g w.heap.size with hlt | hge
  · exact hlt
  · unfold Blk at h; rw [Array.getElem?_eq_none hge] at h; cases h
theorem Blk.cell (h : Blk w g t cs) (i : Nat) : w.cell? ⟨g, i, none⟩ = cs[i]? := cell_of_row w g i cs t (0, 0) h
theorem Blk.frozen (h : Blk w g t cs) (i : Nat) : w.frozen? ⟨g, i, none⟩ = false := by
  unfold Blk at h
  simp [World.frozen?, h]
theorem Blk.new (w : World) (t : TypeId) (cs : Array Value) : Blk (w.alloc (.cells cs t)) w.heap.size t cs := heap_alloc_new w _
theorem Blk.drew (h : Blk w g t cs) : Blk w.drew g t cs := h
theorem Blk.drewN (h : Blk w g t cs) (n : Nat) : Blk (w.drewN n) g t cs := h
theorem Blk.alloc (h : Blk w g t cs) (o : Obj) : Blk (w.alloc o) g t cs := (Below.heap_alloc w o g h.lt).trans h
theorem Blk.set_ (h : Blk w g t cs) (i : Nat) (u : Value) : Blk (w.setCell ⟨g, i, none⟩ u) g t (cs.setIfInBounds i u) := by
  unfold Blk at h ⊢
  simp [World.setCell, Array.getElem?_modify, h]
theorem Blk.far (h : Blk w g t cs) {p : Addr} (hp : g ≠ p.block) (u : Value) : Blk (w.setCell p u) g t cs := (Below.heap_setCell w p u g hp).trans h
theorem Blk.below {B : Nat} (h : Blk w g t cs) (hb : Below B w w') (hg : g < B) : Blk w' g t cs := (hb.block g hg).trans h
theorem Blk.grown {row : Option Nat} (h : Blk w g t cs) (hb : w.grownBy w' row) (hg : some g ≠ row) : Blk w' g t cs := (hb.block g h.lt hg).trans h
theorem Blk.ne_ {g' : Nat} {t' : TypeId} {cs' : Array Value} (h : Blk w g t cs) (h' : Blk w g' t' cs') (hne : t ≠ t') : g ≠ g' := by
  rintro rfl
  unfold Blk at h h'
  rw [h] at h'
  injection h' with h'
  injection h' with _ ht
  exact hne ht
end
structure D7 where
  a0 : Int
  a1 : Int
  a2 : Int
  a3 : Int
  a4 : Int
  a5 : Int
  a6 : Int

abbrev D7.c (d : D7) : Array Value := #[.int .i64 d.a0, .int .i64 d.a1, .int .i64 d.a2, .int .i64 d.a3, .int .i64 d.a4, .int .i64 d.a5, .int .i64 d.a6]
abbrev D7.v (d : D7) : Value := .agg d.c
def D7.at (d : D7) : Nat → Int
  | 0 => d.a0 | 1 => d.a1 | 2 => d.a2 | 3 => d.a3 | 4 => d.a4 | 5 => d.a5 | 6 => d.a6 | _ => 0
def in100 (n : Int) : Bool := decide (-100 ≤ n ∧ n ≤ 100)
def D7.ok (d : D7) : Bool := in100 d.a0 && in100 d.a1 && in100 d.a2 && in100 d.a3 && in100 d.a4 && in100 d.a5 && in100 d.a6

theorem index_dim0 (d : D7) (w : World) : (Instr.index 23 d.v (.int .i64 0)).run Tryd.prog w = .ok (.int .i64 d.a0) w := by kernel_rfl
theorem index_dim1 (d : D7) (w : World) : (Instr.index 23 d.v (.int .i64 1)).run Tryd.prog w = .ok (.int .i64 d.a1) w := by kernel_rfl
theorem index_dim2 (d : D7) (w : World) : (Instr.index 23 d.v (.int .i64 2)).run Tryd.prog w = .ok (.int .i64 d.a2) w := by kernel_rfl
theorem index_dim3 (d : D7) (w : World) : (Instr.index 23 d.v (.int .i64 3)).run Tryd.prog w = .ok (.int .i64 d.a3) w := by kernel_rfl
theorem index_dim4 (d : D7) (w : World) : (Instr.index 23 d.v (.int .i64 4)).run Tryd.prog w = .ok (.int .i64 d.a4) w := by kernel_rfl
theorem index_dim5 (d : D7) (w : World) : (Instr.index 23 d.v (.int .i64 5)).run Tryd.prog w = .ok (.int .i64 d.a5) w := by kernel_rfl
theorem index_dim6 (d : D7) (w : World) : (Instr.index 23 d.v (.int .i64 6)).run Tryd.prog w = .ok (.int .i64 d.a6) w := by kernel_rfl
theorem index_dim (d : D7) (k : Nat) (hk : k < 7) (w : World) : (Instr.index 23 d.v (.int .i64 k)).run Tryd.prog w = .ok (.int .i64 (d.at k)) w := by
  match k, hk with
  | 0, _ => exact index_dim0 d w
  | 1, _ => exact index_dim1 d w
  | 2, _ => exact index_dim2 d w
  | 3, _ => exact index_dim3 d w
  | 4, _ => exact index_dim4 d w
  | 5, _ => exact index_dim5 d w
  | 6, _ => exact index_dim6 d w


theorem ok_iff (d : D7) : d.ok = true ↔ ∀ j, j < 7 → in100 (d.at j) = true := by
  constructor
  · intro h j hj
    simp only [D7.ok, Bool.and_eq_true] at h
    match j, hj with
    | 0, _ => simp [D7.at, h] 
    | 1, _ => simp [D7.at, h]
    | 2, _ => simp [D7.at, h]
    | 3, _ => simp [D7.at, h]
    | 4, _ => simp [D7.at, h]
    | 5, _ => simp [D7.at, h]
    | 6, _ => simp [D7.at, h]
  · intro h
    have h0 := h 0 (by omega)
    have h1 := h 1 (by omega)
    have h2 := h 2 (by omega)
    have h3 := h 3 (by omega)
    have h4 := h 4 (by omega)
    have h5 := h 5 (by omega)
    have h6 := h 6 (by omega)
    simp only [D7.at] at h0 h1 h2 h3 h4 h5 h6
    simp [D7.ok, *]
theorem not_ok (d : D7) (k : Nat) (hk : k < 7) (h : d.at k < -100 ∨ 100 < d.at k) : d.ok = false := by
  rw [Bool.eq_false_iff]
  intro ho
  have := (ok_iff d).1 ho k hk
  simp [in100] at this
  omega
theorem ret_bool {a b : Bool} (h : a = b) : Ending.returned (.bool a) = .returned (.bool b) := by rw [h]

set_option maxHeartbeats 400000 in
theorem valid_any (d : D7) (w : World) : Calls Tryd.prog 32 #[d.v] w fun e w' => e = .returned (.bool d.ok) ∧ w.alloc (.cells d.c 23) = w' := by
  have HX := Lib.hid (index_dim d)
  go_enter Tryd.func32, Tryd.ntmps32
  go_wp2
  go_loop [4, 6] (fun _ i => ∃ k : Nat, k ≤ 7 ∧ i = .int .i64 k ∧ Hid (∀ j, j < k → in100 (d.at j) = true)) (fun _ i => 7 - (intOf i).toNat)
  case atStart => exact ⟨0, by omega, rfl, fun j h => by omega⟩
  case round =>
    obtain ⟨k, hk, rfl, hj⟩ := hrel
    by_cases hlt : k < 7
    · have hx := fun w => HX.out k hlt w
      generalize hd : d.at k = x at hx
      have HD := Lib.hid hd
      clear hd
      go_wp2
      · go_ret
        exact ⟨ret_bool (not_ok d k hlt (by rw [HD.out]; omega)).symm, rfl⟩
      · go_round
        case rel => exact ⟨k + 1, by omega, by go_num, fun j h => by
          rcases Nat.lt_or_ge j k with h1 | h1
          · exact hj.out j h1
          · obtain rfl : j = k := by omega
            rw [HD.out]; simp [in100]; omega⟩
        case measure => simp [intOf]; omega
      · go_ret
        exact ⟨ret_bool (not_ok d k hlt (by rw [HD.out]; omega)).symm, rfl⟩
    · go_wp2
      go_ret
      exact ⟨ret_bool ((ok_iff d).2 fun j h => hj.out j (by omega)).symm, rfl⟩

theorem cell_dim (d : D7) (k : Nat) (hk : k < 7) : d.c[k]? = some (.int .i64 (d.at k)) := by
  match k, hk with
  | 0, _ => rfl
  | 1, _ => rfl
  | 2, _ => rfl
  | 3, _ => rfl
  | 4, _ => rfl
  | 5, _ => rfl
  | 6, _ => rfl
set_option maxHeartbeats 400000 in
theorem rvalid_any (d : D7) (w : World) : Calls Tryd.prog 31 #[d.v] w fun e w' => e = .returned (.bool d.ok) ∧ w.alloc (.cells d.c 23) = w' := by
  have HX := Lib.hid (cell_dim d)
  go_enter Tryd.func31, Tryd.ntmps31
  go_wp2
  go_loop [3] (fun i => ∃ k : Nat, k ≤ 7 ∧ i = .int .i64 k ∧ Hid (∀ j, j < k → in100 (d.at j) = true)) (fun i => 7 - (intOf i).toNat)
  case atStart => exact ⟨0, by omega, rfl, fun j h => by omega⟩
  case round =>
    obtain ⟨k, hk, rfl, hj⟩ := hrel
    by_cases hlt : k < 7
    · have hx : (w.alloc (.cells d.c 23)).cell? ⟨w.heap.size, k, none⟩ = some (.int .i64 (d.at k)) := by
        rw [← HX.out k hlt]; exact Blk.cell (Blk.new w 23 d.c) k
      generalize hd : d.at k = x at hx
      have HD := Lib.hid hd
      clear hd
      go_wp2
      · go_ret
        exact ⟨ret_bool (not_ok d k hlt (by rw [HD.out]; omega)).symm, rfl⟩
      · go_round
        case rel => exact ⟨k + 1, by omega, by go_num, fun j h => by
          rcases Nat.lt_or_ge j k with h1 | h1
          · exact hj.out j h1
          · obtain rfl : j = k := by omega
            rw [HD.out]; simp [in100]; omega⟩
        case measure => simp [intOf]; omega
      · go_ret
        exact ⟨ret_bool (not_ok d k hlt (by rw [HD.out]; omega)).symm, rfl⟩
    · go_wp2
      go_ret
      exact ⟨ret_bool ((ok_iff d).2 fun j h => hj.out j (by omega)).symm, rfl⟩
end Go.Proofs.YtlfapncbkgpclaaDoor
