/- The checker of trees: its table of kinds. -/
import Derived.Test.YtgoafobhhmeppaaNZ
import Derived.Deep.WholeRow
namespace Go.Proofs.Ytgoafobhhmeppaa
open Go.RowKit
def kindsC : Array Value := #[.string ⟨#[]⟩, .int .i64 0, .nilFunc, .string ⟨#[114, 111, 119]⟩, .int .i64 0, .func (.func 82) #[] #[], .string ⟨#[115, 121, 109]⟩, .int .i64 0, .func (.func 83) #[] #[], .string ⟨#[110, 117, 109]⟩, .int .i64 0, .func (.func 84) #[] #[], .string ⟨#[116, 101, 120, 116]⟩, .int .i64 0, .func (.func 85) #[] #[], .string ⟨#[102, 114, 97, 99]⟩, .int .i64 2, .func (.func 82) #[] #[], .string ⟨#[114, 111, 111, 116]⟩, .int .i64 2, .func (.func 82) #[] #[], .string ⟨#[115, 117, 98]⟩, .int .i64 2, .func (.func 82) #[] #[], .string ⟨#[115, 117, 112]⟩, .int .i64 2, .func (.func 82) #[] #[], .string ⟨#[98, 111, 116, 104]⟩, .int .i64 3, .func (.func 82) #[] #[], .string ⟨#[97, 99, 99, 101, 110, 116]⟩, .int .i64 1, .func (.func 86) #[] #[], .string ⟨#[102, 101, 110, 99, 101]⟩, .int .i64 1, .func (.func 87) #[] #[], .string ⟨#[109, 97, 116, 114, 105, 120]⟩, .int .i64 0, .func (.func 82) #[] #[]]
def chkC (n : Int) : Array Value := #[.string ⟨#[]⟩, .int .i64 0, .nilFunc, .string ⟨#[114, 111, 119]⟩, .int .i64 0, .func (.func 82) #[] #[], .string ⟨#[115, 121, 109]⟩, .int .i64 0, .func (.func 83) #[] #[], .string ⟨#[110, 117, 109]⟩, .int .i64 0, .func (.func 84) #[] #[], .string ⟨#[116, 101, 120, 116]⟩, .int .i64 0, .func (.func 85) #[] #[], .string ⟨#[102, 114, 97, 99]⟩, .int .i64 2, .func (.func 82) #[] #[], .string ⟨#[114, 111, 111, 116]⟩, .int .i64 2, .func (.func 82) #[] #[], .string ⟨#[115, 117, 98]⟩, .int .i64 2, .func (.func 82) #[] #[], .string ⟨#[115, 117, 112]⟩, .int .i64 2, .func (.func 82) #[] #[], .string ⟨#[98, 111, 116, 104]⟩, .int .i64 3, .func (.func 82) #[] #[], .string ⟨#[97, 99, 99, 101, 110, 116]⟩, .int .i64 1, .func (.func 86) #[] #[], .string ⟨#[102, 101, 110, 99, 101]⟩, .int .i64 1, .func (.func 87) #[] #[], .string ⟨#[109, 97, 116, 114, 105, 120]⟩, .int .i64 0, .func (.func 82) #[] #[], .int .i64 n]
set_option maxRecDepth 100000 in
set_option maxHeartbeats 400000 in
theorem kinds_any (w : World) : Calls Try.prog 70 #[] w fun e w' => e = .returned (.agg kindsC) ∧ Below w.heap.size w w' := by
  have hl := run_loadVar_new (P := Try.prog) w 106 kindsC 13 105 Try.underlying106 (by kernel_rfl)
  go_enter Try.func70, Try.ntmps70
  go_wp2_with (refine wpList_store_row (by rfl) 106 (.tmp 0) (.tmp 13) (by rfl) w.heap.size kindsC (by rfl) (by rfl) 106 _ (heap_alloc_new w _) (by kernel_rfl) (by rfl) (by kernel_rfl) ?_; rw [World.setRow_alloc_new])
  refine bodyPost_ret (v := .agg kindsC) (by simp [results, Try.results70, Act.put, asAddr, hl]) rfl ⟨rfl, bel_alloc _ _⟩
end Go.Proofs.Ytgoafobhhmeppaa
