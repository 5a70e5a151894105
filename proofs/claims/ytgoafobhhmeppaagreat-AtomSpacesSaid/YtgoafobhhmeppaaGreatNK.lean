/- The checker of trees: its table of kinds. -/
import Derived.Test.YtgoafobhhmeppaaGreatNZ
import Derived.Deep.WholeRow
namespace Go.Proofs.YtgoafobhhmeppaaGreat
open Go.RowKit
def kindsC : Array Value := #[.string ⟨#[]⟩, .int .i64 0, .nilFunc, .string ⟨#[114, 111, 119]⟩, .int .i64 0, .func (.func 71) #[] #[], .string ⟨#[115, 121, 109]⟩, .int .i64 0, .func (.func 72) #[] #[], .string ⟨#[110, 117, 109]⟩, .int .i64 0, .func (.func 73) #[] #[], .string ⟨#[116, 101, 120, 116]⟩, .int .i64 0, .func (.func 74) #[] #[], .string ⟨#[102, 114, 97, 99]⟩, .int .i64 2, .func (.func 71) #[] #[], .string ⟨#[114, 111, 111, 116]⟩, .int .i64 2, .func (.func 71) #[] #[], .string ⟨#[115, 117, 98]⟩, .int .i64 2, .func (.func 71) #[] #[], .string ⟨#[115, 117, 112]⟩, .int .i64 2, .func (.func 71) #[] #[], .string ⟨#[98, 111, 116, 104]⟩, .int .i64 3, .func (.func 71) #[] #[], .string ⟨#[97, 99, 99, 101, 110, 116]⟩, .int .i64 1, .func (.func 75) #[] #[], .string ⟨#[102, 101, 110, 99, 101]⟩, .int .i64 1, .func (.func 76) #[] #[], .string ⟨#[109, 97, 116, 114, 105, 120]⟩, .int .i64 0, .func (.func 71) #[] #[]]
def chkC (n : Int) : Array Value := #[.string ⟨#[]⟩, .int .i64 0, .nilFunc, .string ⟨#[114, 111, 119]⟩, .int .i64 0, .func (.func 71) #[] #[], .string ⟨#[115, 121, 109]⟩, .int .i64 0, .func (.func 72) #[] #[], .string ⟨#[110, 117, 109]⟩, .int .i64 0, .func (.func 73) #[] #[], .string ⟨#[116, 101, 120, 116]⟩, .int .i64 0, .func (.func 74) #[] #[], .string ⟨#[102, 114, 97, 99]⟩, .int .i64 2, .func (.func 71) #[] #[], .string ⟨#[114, 111, 111, 116]⟩, .int .i64 2, .func (.func 71) #[] #[], .string ⟨#[115, 117, 98]⟩, .int .i64 2, .func (.func 71) #[] #[], .string ⟨#[115, 117, 112]⟩, .int .i64 2, .func (.func 71) #[] #[], .string ⟨#[98, 111, 116, 104]⟩, .int .i64 3, .func (.func 71) #[] #[], .string ⟨#[97, 99, 99, 101, 110, 116]⟩, .int .i64 1, .func (.func 75) #[] #[], .string ⟨#[102, 101, 110, 99, 101]⟩, .int .i64 1, .func (.func 76) #[] #[], .string ⟨#[109, 97, 116, 114, 105, 120]⟩, .int .i64 0, .func (.func 71) #[] #[], .int .i64 n]
set_option maxRecDepth 100000 in
set_option maxHeartbeats 400000 in
theorem kinds_any (w : World) : Calls Tryz.prog 55 #[] w fun e w' => e = .returned (.agg kindsC) ∧ Below w.heap.size w w' := by
  have hl := run_loadVar_new (P := Tryz.prog) w 97 kindsC 13 96 Tryz.underlying97 (by kernel_rfl)
  go_enter Tryz.func55, Tryz.ntmps55
  go_wp2_with (refine wpList_store_row (by rfl) 97 (.tmp 0) (.tmp 13) (by rfl) w.heap.size kindsC (by rfl) (by rfl) 97 _ (heap_alloc_new w _) (by kernel_rfl) (by rfl) (by kernel_rfl) ?_; rw [World.setRow_alloc_new])
  refine bodyPost_ret (v := .agg kindsC) (by simp [results, Tryz.results55, Act.put, asAddr, hl]) rfl ⟨rfl, bel_alloc _ _⟩
end Go.Proofs.YtgoafobhhmeppaaGreat
