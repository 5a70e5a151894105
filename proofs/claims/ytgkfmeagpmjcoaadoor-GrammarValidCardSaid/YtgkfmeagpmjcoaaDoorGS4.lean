/- line and Text: the text of valid rules. -/
import Derived.Test.YtgkfmeagpmjcoaaDoorGS3
import Derived.Lib.SmallJoins
import Derived.Lib.ItoaLen
import Derived.Lib.Join
import Derived.Shelf.Strings.BuilderK
import Derived.Deep.WholeRow
namespace Go.Proofs.YtgkfmeagpmjcoaaDoor
open Go.RowKit
abbrev shapesV : Value := .agg #[.int .i64 1, .string ⟨#[105, 110, 102, 105, 120]⟩, .bool true, .bool true, .bool true, .int .i64 2, .string ⟨#[112, 114, 101, 102, 105, 120]⟩, .bool true, .bool false, .bool true, .int .i64 3, .string ⟨#[112, 111, 115, 116, 102, 105, 120]⟩, .bool true, .bool true, .bool false, .int .i64 4, .string ⟨#[106, 117, 120, 116, 97, 112, 111, 115, 101]⟩, .bool false, .bool true, .bool true]
abbrev shp1 : Array Value := #[.int .i64 1, .string ⟨#[105, 110, 102, 105, 120]⟩, .bool true, .bool true, .bool true]
abbrev shp2 : Array Value := #[.int .i64 2, .string ⟨#[112, 114, 101, 102, 105, 120]⟩, .bool true, .bool false, .bool true]
abbrev shp3 : Array Value := #[.int .i64 3, .string ⟨#[112, 111, 115, 116, 102, 105, 120]⟩, .bool true, .bool true, .bool false]
abbrev shp4 : Array Value := #[.int .i64 4, .string ⟨#[106, 117, 120, 116, 97, 112, 111, 115, 101]⟩, .bool false, .bool true, .bool true]
theorem index_shape1 (w : World) : (Instr.index 66 shapesV (.int .i64 0)).run Tryd.prog w = .ok (.agg shp1) w := by kernel_rfl
theorem index_shape2 (w : World) : (Instr.index 66 shapesV (.int .i64 1)).run Tryd.prog w = .ok (.agg shp2) w := by kernel_rfl
theorem index_shape3 (w : World) : (Instr.index 66 shapesV (.int .i64 2)).run Tryd.prog w = .ok (.agg shp3) w := by kernel_rfl
theorem index_shape4 (w : World) : (Instr.index 66 shapesV (.int .i64 3)).run Tryd.prog w = .ok (.agg shp4) w := by kernel_rfl
def shapesC : Array Value := #[.int .i64 1, .string ⟨#[105, 110, 102, 105, 120]⟩, .bool true, .bool true, .bool true, .int .i64 2, .string ⟨#[112, 114, 101, 102, 105, 120]⟩, .bool true, .bool false, .bool true, .int .i64 3, .string ⟨#[112, 111, 115, 116, 102, 105, 120]⟩, .bool true, .bool true, .bool false, .int .i64 4, .string ⟨#[106, 117, 120, 116, 97, 112, 111, 115, 101]⟩, .bool false, .bool true, .bool true]
set_option maxRecDepth 100000 in
set_option maxHeartbeats 400000 in
theorem shapes_any (w : World) : Calls Tryd.prog 44 #[] w fun e w' => e = .returned shapesV ∧ Below w.heap.size w w' := by
  have hl := run_loadVar_new (P := Tryd.prog) w 66 shapesC 4 65 Tryd.underlying66 (by kernel_rfl)
  go_enter Tryd.func44, Tryd.ntmps44
  go_wp2_with (refine wpList_store_row (by rfl) 66 (.tmp 0) (.tmp 5) (by rfl) w.heap.size shapesC (by rfl) (by rfl) 66 _ (heap_alloc_new w _) (by kernel_rfl) (by rfl) (by kernel_rfl) ?_; rw [World.setRow_alloc_new])
  refine bodyPost_ret (v := .agg shapesC) (by simp [results, Tryd.results44, Act.put, asAddr, hl]) rfl ⟨rfl, bel_alloc _ _⟩
def Tab (w : World) : Prop := ∀ w' : World, Below w.heap.size w w' → Lib.TabIs Tryd.prog w' "internal/strconv.uint64pow10" .u64 Lib.pow10Tab
theorem Tab.keep {w w' : World} (h : Tab w) (hb : Below w.heap.size w w') : Tab w' := fun w2 hb2 => h w2 (hb.trans (hb2.mono hb.size))
theorem below_grow' (w : World) (k : Nat) (os : Array Obj) : Below w.heap.size w (Sort.grow (w.drewN k) os) :=
  ⟨rfl, rfl, rfl, by simp [Sort.grow], fun i hi => by
    show (w.heap ++ os)[i]? = w.heap[i]?
    rw [Array.getElem?_append_left hi]⟩
def itB (n : Int) : ByteArray := ⟨(Lib.itoa n).toArray⟩
theorem itoa_any (n : Int) (w : World) (ht : Tab w) (h0 : -9223372036854775808 ≤ n) (h1 : n ≤ 9223372036854775807) :
    Calls Tryd.prog 45 #[.int .i64 n] w fun e w' => e = .returned (.string (itB n)) ∧ Below w.heap.size w w' :=
  (Tryd.strconv_Itoa n h0 h1 w (ht w (Below.refl _ _))).mono fun _ _ ⟨he, k, os, hw⟩ => ⟨he, by rw [hw]; exact below_grow' w k os⟩
theorem info_str : (Tryd.prog.info? 9).map (fun i => (i.zero, i.size, i.bytes)) = some (some (.string ⟨#[]⟩), 1, 16) := by kernel_rfl
theorem Tryd.lays166 : Go.Proofs.Lays.n166 Tryd.prog Tryd.lays156_ren :=
  ⟨Tryd.lays156.mixed, Tryd.lays156.f166, Tryd.lays156.f240, Tryd.lays156.f276, Tryd.lays156.t0, Tryd.lays156.a0, Tryd.lays156.z0, Tryd.lays156.v0, Tryd.lays156.t3, Tryd.lays156.a3, Tryd.lays156.z3, Tryd.lays156.v3, Tryd.lays156.t4, Tryd.lays156.a4, Tryd.lays156.z4, Tryd.lays156.v4, Tryd.lays156.t9, Tryd.lays156.a9, Tryd.lays156.z9, Tryd.lays156.v9, Tryd.lays156.t20, Tryd.lays156.a20, Tryd.lays156.z20, Tryd.lays156.v20, Tryd.lays156.t37, Tryd.lays156.a37, Tryd.lays156.z37, Tryd.lays156.v37, Tryd.lays156.t70, Tryd.lays156.a70, Tryd.lays156.z70, Tryd.lays156.v70, Tryd.lays156.t72, Tryd.lays156.a72, Tryd.lays156.z72, Tryd.lays156.v72, Tryd.lays156.t75, Tryd.lays156.a75, Tryd.lays156.z75, Tryd.lays156.v75, Tryd.lays156.t164, Tryd.lays156.a164, Tryd.lays156.z164, Tryd.lays156.v164⟩
end Go.Proofs.YtgkfmeagpmjcoaaDoor
