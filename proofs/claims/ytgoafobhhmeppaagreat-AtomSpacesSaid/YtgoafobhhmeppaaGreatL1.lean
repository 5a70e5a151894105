/- Lengths; the spaces between classes: the program. -/
import Derived.Test.YtgoafobhhmeppaaGreatK5
namespace Go.Proofs.YtgoafobhhmeppaaGreat
open Go.RowKit
def tabL : List (List Int) := [[0, 1, -2, -3, 0, 0, 0, -1], [1, 1, 0, -3, 0, 0, 0, -1], [-2, -2, 0, 0, -2, 0, 0, -2], [-3, -3, 0, 0, -3, 0, 0, -3], [0, 0, 0, 0, 0, 0, 0, 0], [0, 1, -2, -3, 0, 0, 0, -1], [-1, -1, 0, -1, -1, -1, -1, -1], [-1, 1, -2, -3, -1, 0, -1, -1]]
def tabAt (l r : Nat) : Int := ((tabL.getD l []).getD r 0)
def tabC : Array Value := #[.int .i64 (0), .int .i64 (1), .int .i64 (-2), .int .i64 (-3), .int .i64 (0), .int .i64 (0), .int .i64 (0), .int .i64 (-1), .int .i64 (1), .int .i64 (1), .int .i64 (0), .int .i64 (-3), .int .i64 (0), .int .i64 (0), .int .i64 (0), .int .i64 (-1), .int .i64 (-2), .int .i64 (-2), .int .i64 (0), .int .i64 (0), .int .i64 (-2), .int .i64 (0), .int .i64 (0), .int .i64 (-2), .int .i64 (-3), .int .i64 (-3), .int .i64 (0), .int .i64 (0), .int .i64 (-3), .int .i64 (0), .int .i64 (0), .int .i64 (-3), .int .i64 (0), .int .i64 (0), .int .i64 (0), .int .i64 (0), .int .i64 (0), .int .i64 (0), .int .i64 (0), .int .i64 (0), .int .i64 (0), .int .i64 (1), .int .i64 (-2), .int .i64 (-3), .int .i64 (0), .int .i64 (0), .int .i64 (0), .int .i64 (-1), .int .i64 (-1), .int .i64 (-1), .int .i64 (0), .int .i64 (-1), .int .i64 (-1), .int .i64 (-1), .int .i64 (-1), .int .i64 (-1), .int .i64 (-1), .int .i64 (1), .int .i64 (-2), .int .i64 (-3), .int .i64 (-1), .int .i64 (0), .int .i64 (-1), .int .i64 (-1)]
def rowC (l : Nat) : Array Value := ((tabL.getD l []).map (Value.int .i64)).toArray
theorem index_tab0 (w : World) : (Instr.index 84 (.agg tabC) (.int .i64 0)).run Tryz.prog w = .ok (.agg (rowC 0)) w := by kernel_rfl
theorem index_row00 (w : World) : (Instr.index 83 (.agg (rowC 0)) (.int .i64 0)).run Tryz.prog w = .ok (.int .i64 (tabAt 0 0)) w := by kernel_rfl
theorem index_row01 (w : World) : (Instr.index 83 (.agg (rowC 0)) (.int .i64 1)).run Tryz.prog w = .ok (.int .i64 (tabAt 0 1)) w := by kernel_rfl
theorem index_row02 (w : World) : (Instr.index 83 (.agg (rowC 0)) (.int .i64 2)).run Tryz.prog w = .ok (.int .i64 (tabAt 0 2)) w := by kernel_rfl
theorem index_row03 (w : World) : (Instr.index 83 (.agg (rowC 0)) (.int .i64 3)).run Tryz.prog w = .ok (.int .i64 (tabAt 0 3)) w := by kernel_rfl
theorem index_row04 (w : World) : (Instr.index 83 (.agg (rowC 0)) (.int .i64 4)).run Tryz.prog w = .ok (.int .i64 (tabAt 0 4)) w := by kernel_rfl
theorem index_row05 (w : World) : (Instr.index 83 (.agg (rowC 0)) (.int .i64 5)).run Tryz.prog w = .ok (.int .i64 (tabAt 0 5)) w := by kernel_rfl
theorem index_row06 (w : World) : (Instr.index 83 (.agg (rowC 0)) (.int .i64 6)).run Tryz.prog w = .ok (.int .i64 (tabAt 0 6)) w := by kernel_rfl
theorem index_row07 (w : World) : (Instr.index 83 (.agg (rowC 0)) (.int .i64 7)).run Tryz.prog w = .ok (.int .i64 (tabAt 0 7)) w := by kernel_rfl
theorem index_tab1 (w : World) : (Instr.index 84 (.agg tabC) (.int .i64 1)).run Tryz.prog w = .ok (.agg (rowC 1)) w := by kernel_rfl
theorem index_row10 (w : World) : (Instr.index 83 (.agg (rowC 1)) (.int .i64 0)).run Tryz.prog w = .ok (.int .i64 (tabAt 1 0)) w := by kernel_rfl
theorem index_row11 (w : World) : (Instr.index 83 (.agg (rowC 1)) (.int .i64 1)).run Tryz.prog w = .ok (.int .i64 (tabAt 1 1)) w := by kernel_rfl
theorem index_row12 (w : World) : (Instr.index 83 (.agg (rowC 1)) (.int .i64 2)).run Tryz.prog w = .ok (.int .i64 (tabAt 1 2)) w := by kernel_rfl
theorem index_row13 (w : World) : (Instr.index 83 (.agg (rowC 1)) (.int .i64 3)).run Tryz.prog w = .ok (.int .i64 (tabAt 1 3)) w := by kernel_rfl
theorem index_row14 (w : World) : (Instr.index 83 (.agg (rowC 1)) (.int .i64 4)).run Tryz.prog w = .ok (.int .i64 (tabAt 1 4)) w := by kernel_rfl
theorem index_row15 (w : World) : (Instr.index 83 (.agg (rowC 1)) (.int .i64 5)).run Tryz.prog w = .ok (.int .i64 (tabAt 1 5)) w := by kernel_rfl
theorem index_row16 (w : World) : (Instr.index 83 (.agg (rowC 1)) (.int .i64 6)).run Tryz.prog w = .ok (.int .i64 (tabAt 1 6)) w := by kernel_rfl
theorem index_row17 (w : World) : (Instr.index 83 (.agg (rowC 1)) (.int .i64 7)).run Tryz.prog w = .ok (.int .i64 (tabAt 1 7)) w := by kernel_rfl
theorem index_tab2 (w : World) : (Instr.index 84 (.agg tabC) (.int .i64 2)).run Tryz.prog w = .ok (.agg (rowC 2)) w := by kernel_rfl
theorem index_row20 (w : World) : (Instr.index 83 (.agg (rowC 2)) (.int .i64 0)).run Tryz.prog w = .ok (.int .i64 (tabAt 2 0)) w := by kernel_rfl
theorem index_row21 (w : World) : (Instr.index 83 (.agg (rowC 2)) (.int .i64 1)).run Tryz.prog w = .ok (.int .i64 (tabAt 2 1)) w := by kernel_rfl
theorem index_row22 (w : World) : (Instr.index 83 (.agg (rowC 2)) (.int .i64 2)).run Tryz.prog w = .ok (.int .i64 (tabAt 2 2)) w := by kernel_rfl
theorem index_row23 (w : World) : (Instr.index 83 (.agg (rowC 2)) (.int .i64 3)).run Tryz.prog w = .ok (.int .i64 (tabAt 2 3)) w := by kernel_rfl
theorem index_row24 (w : World) : (Instr.index 83 (.agg (rowC 2)) (.int .i64 4)).run Tryz.prog w = .ok (.int .i64 (tabAt 2 4)) w := by kernel_rfl
theorem index_row25 (w : World) : (Instr.index 83 (.agg (rowC 2)) (.int .i64 5)).run Tryz.prog w = .ok (.int .i64 (tabAt 2 5)) w := by kernel_rfl
theorem index_row26 (w : World) : (Instr.index 83 (.agg (rowC 2)) (.int .i64 6)).run Tryz.prog w = .ok (.int .i64 (tabAt 2 6)) w := by kernel_rfl
theorem index_row27 (w : World) : (Instr.index 83 (.agg (rowC 2)) (.int .i64 7)).run Tryz.prog w = .ok (.int .i64 (tabAt 2 7)) w := by kernel_rfl
theorem index_tab3 (w : World) : (Instr.index 84 (.agg tabC) (.int .i64 3)).run Tryz.prog w = .ok (.agg (rowC 3)) w := by kernel_rfl
theorem index_row30 (w : World) : (Instr.index 83 (.agg (rowC 3)) (.int .i64 0)).run Tryz.prog w = .ok (.int .i64 (tabAt 3 0)) w := by kernel_rfl
theorem index_row31 (w : World) : (Instr.index 83 (.agg (rowC 3)) (.int .i64 1)).run Tryz.prog w = .ok (.int .i64 (tabAt 3 1)) w := by kernel_rfl
theorem index_row32 (w : World) : (Instr.index 83 (.agg (rowC 3)) (.int .i64 2)).run Tryz.prog w = .ok (.int .i64 (tabAt 3 2)) w := by kernel_rfl
theorem index_row33 (w : World) : (Instr.index 83 (.agg (rowC 3)) (.int .i64 3)).run Tryz.prog w = .ok (.int .i64 (tabAt 3 3)) w := by kernel_rfl
theorem index_row34 (w : World) : (Instr.index 83 (.agg (rowC 3)) (.int .i64 4)).run Tryz.prog w = .ok (.int .i64 (tabAt 3 4)) w := by kernel_rfl
theorem index_row35 (w : World) : (Instr.index 83 (.agg (rowC 3)) (.int .i64 5)).run Tryz.prog w = .ok (.int .i64 (tabAt 3 5)) w := by kernel_rfl
theorem index_row36 (w : World) : (Instr.index 83 (.agg (rowC 3)) (.int .i64 6)).run Tryz.prog w = .ok (.int .i64 (tabAt 3 6)) w := by kernel_rfl
theorem index_row37 (w : World) : (Instr.index 83 (.agg (rowC 3)) (.int .i64 7)).run Tryz.prog w = .ok (.int .i64 (tabAt 3 7)) w := by kernel_rfl
theorem index_tab4 (w : World) : (Instr.index 84 (.agg tabC) (.int .i64 4)).run Tryz.prog w = .ok (.agg (rowC 4)) w := by kernel_rfl
theorem index_row40 (w : World) : (Instr.index 83 (.agg (rowC 4)) (.int .i64 0)).run Tryz.prog w = .ok (.int .i64 (tabAt 4 0)) w := by kernel_rfl
theorem index_row41 (w : World) : (Instr.index 83 (.agg (rowC 4)) (.int .i64 1)).run Tryz.prog w = .ok (.int .i64 (tabAt 4 1)) w := by kernel_rfl
theorem index_row42 (w : World) : (Instr.index 83 (.agg (rowC 4)) (.int .i64 2)).run Tryz.prog w = .ok (.int .i64 (tabAt 4 2)) w := by kernel_rfl
theorem index_row43 (w : World) : (Instr.index 83 (.agg (rowC 4)) (.int .i64 3)).run Tryz.prog w = .ok (.int .i64 (tabAt 4 3)) w := by kernel_rfl
theorem index_row44 (w : World) : (Instr.index 83 (.agg (rowC 4)) (.int .i64 4)).run Tryz.prog w = .ok (.int .i64 (tabAt 4 4)) w := by kernel_rfl
theorem index_row45 (w : World) : (Instr.index 83 (.agg (rowC 4)) (.int .i64 5)).run Tryz.prog w = .ok (.int .i64 (tabAt 4 5)) w := by kernel_rfl
theorem index_row46 (w : World) : (Instr.index 83 (.agg (rowC 4)) (.int .i64 6)).run Tryz.prog w = .ok (.int .i64 (tabAt 4 6)) w := by kernel_rfl
theorem index_row47 (w : World) : (Instr.index 83 (.agg (rowC 4)) (.int .i64 7)).run Tryz.prog w = .ok (.int .i64 (tabAt 4 7)) w := by kernel_rfl
theorem index_tab5 (w : World) : (Instr.index 84 (.agg tabC) (.int .i64 5)).run Tryz.prog w = .ok (.agg (rowC 5)) w := by kernel_rfl
theorem index_row50 (w : World) : (Instr.index 83 (.agg (rowC 5)) (.int .i64 0)).run Tryz.prog w = .ok (.int .i64 (tabAt 5 0)) w := by kernel_rfl
theorem index_row51 (w : World) : (Instr.index 83 (.agg (rowC 5)) (.int .i64 1)).run Tryz.prog w = .ok (.int .i64 (tabAt 5 1)) w := by kernel_rfl
theorem index_row52 (w : World) : (Instr.index 83 (.agg (rowC 5)) (.int .i64 2)).run Tryz.prog w = .ok (.int .i64 (tabAt 5 2)) w := by kernel_rfl
theorem index_row53 (w : World) : (Instr.index 83 (.agg (rowC 5)) (.int .i64 3)).run Tryz.prog w = .ok (.int .i64 (tabAt 5 3)) w := by kernel_rfl
theorem index_row54 (w : World) : (Instr.index 83 (.agg (rowC 5)) (.int .i64 4)).run Tryz.prog w = .ok (.int .i64 (tabAt 5 4)) w := by kernel_rfl
theorem index_row55 (w : World) : (Instr.index 83 (.agg (rowC 5)) (.int .i64 5)).run Tryz.prog w = .ok (.int .i64 (tabAt 5 5)) w := by kernel_rfl
theorem index_row56 (w : World) : (Instr.index 83 (.agg (rowC 5)) (.int .i64 6)).run Tryz.prog w = .ok (.int .i64 (tabAt 5 6)) w := by kernel_rfl
theorem index_row57 (w : World) : (Instr.index 83 (.agg (rowC 5)) (.int .i64 7)).run Tryz.prog w = .ok (.int .i64 (tabAt 5 7)) w := by kernel_rfl
theorem index_tab6 (w : World) : (Instr.index 84 (.agg tabC) (.int .i64 6)).run Tryz.prog w = .ok (.agg (rowC 6)) w := by kernel_rfl
theorem index_row60 (w : World) : (Instr.index 83 (.agg (rowC 6)) (.int .i64 0)).run Tryz.prog w = .ok (.int .i64 (tabAt 6 0)) w := by kernel_rfl
theorem index_row61 (w : World) : (Instr.index 83 (.agg (rowC 6)) (.int .i64 1)).run Tryz.prog w = .ok (.int .i64 (tabAt 6 1)) w := by kernel_rfl
theorem index_row62 (w : World) : (Instr.index 83 (.agg (rowC 6)) (.int .i64 2)).run Tryz.prog w = .ok (.int .i64 (tabAt 6 2)) w := by kernel_rfl
theorem index_row63 (w : World) : (Instr.index 83 (.agg (rowC 6)) (.int .i64 3)).run Tryz.prog w = .ok (.int .i64 (tabAt 6 3)) w := by kernel_rfl
theorem index_row64 (w : World) : (Instr.index 83 (.agg (rowC 6)) (.int .i64 4)).run Tryz.prog w = .ok (.int .i64 (tabAt 6 4)) w := by kernel_rfl
theorem index_row65 (w : World) : (Instr.index 83 (.agg (rowC 6)) (.int .i64 5)).run Tryz.prog w = .ok (.int .i64 (tabAt 6 5)) w := by kernel_rfl
theorem index_row66 (w : World) : (Instr.index 83 (.agg (rowC 6)) (.int .i64 6)).run Tryz.prog w = .ok (.int .i64 (tabAt 6 6)) w := by kernel_rfl
theorem index_row67 (w : World) : (Instr.index 83 (.agg (rowC 6)) (.int .i64 7)).run Tryz.prog w = .ok (.int .i64 (tabAt 6 7)) w := by kernel_rfl
theorem index_tab7 (w : World) : (Instr.index 84 (.agg tabC) (.int .i64 7)).run Tryz.prog w = .ok (.agg (rowC 7)) w := by kernel_rfl
theorem index_row70 (w : World) : (Instr.index 83 (.agg (rowC 7)) (.int .i64 0)).run Tryz.prog w = .ok (.int .i64 (tabAt 7 0)) w := by kernel_rfl
theorem index_row71 (w : World) : (Instr.index 83 (.agg (rowC 7)) (.int .i64 1)).run Tryz.prog w = .ok (.int .i64 (tabAt 7 1)) w := by kernel_rfl
theorem index_row72 (w : World) : (Instr.index 83 (.agg (rowC 7)) (.int .i64 2)).run Tryz.prog w = .ok (.int .i64 (tabAt 7 2)) w := by kernel_rfl
theorem index_row73 (w : World) : (Instr.index 83 (.agg (rowC 7)) (.int .i64 3)).run Tryz.prog w = .ok (.int .i64 (tabAt 7 3)) w := by kernel_rfl
theorem index_row74 (w : World) : (Instr.index 83 (.agg (rowC 7)) (.int .i64 4)).run Tryz.prog w = .ok (.int .i64 (tabAt 7 4)) w := by kernel_rfl
theorem index_row75 (w : World) : (Instr.index 83 (.agg (rowC 7)) (.int .i64 5)).run Tryz.prog w = .ok (.int .i64 (tabAt 7 5)) w := by kernel_rfl
theorem index_row76 (w : World) : (Instr.index 83 (.agg (rowC 7)) (.int .i64 6)).run Tryz.prog w = .ok (.int .i64 (tabAt 7 6)) w := by kernel_rfl
theorem index_row77 (w : World) : (Instr.index 83 (.agg (rowC 7)) (.int .i64 7)).run Tryz.prog w = .ok (.int .i64 (tabAt 7 7)) w := by kernel_rfl
theorem index_tab (l : Nat) (h : l < 8) (w : World) : (Instr.index 84 (.agg tabC) (.int .i64 (l : Nat))).run Tryz.prog w = .ok (.agg (rowC l)) w := by
  match l, h with
  | 0, _ => exact index_tab0 w
  | 1, _ => exact index_tab1 w
  | 2, _ => exact index_tab2 w
  | 3, _ => exact index_tab3 w
  | 4, _ => exact index_tab4 w
  | 5, _ => exact index_tab5 w
  | 6, _ => exact index_tab6 w
  | 7, _ => exact index_tab7 w
  | l + 8, h => omega
theorem index_row0 (r : Nat) (h : r < 8) (w : World) : (Instr.index 83 (.agg (rowC 0)) (.int .i64 (r : Nat))).run Tryz.prog w = .ok (.int .i64 (tabAt 0 r)) w := by
  match r, h with
  | 0, _ => exact index_row00 w
  | 1, _ => exact index_row01 w
  | 2, _ => exact index_row02 w
  | 3, _ => exact index_row03 w
  | 4, _ => exact index_row04 w
  | 5, _ => exact index_row05 w
  | 6, _ => exact index_row06 w
  | 7, _ => exact index_row07 w
  | r + 8, h => omega
theorem index_row1 (r : Nat) (h : r < 8) (w : World) : (Instr.index 83 (.agg (rowC 1)) (.int .i64 (r : Nat))).run Tryz.prog w = .ok (.int .i64 (tabAt 1 r)) w := by
  match r, h with
  | 0, _ => exact index_row10 w
  | 1, _ => exact index_row11 w
  | 2, _ => exact index_row12 w
  | 3, _ => exact index_row13 w
  | 4, _ => exact index_row14 w
  | 5, _ => exact index_row15 w
  | 6, _ => exact index_row16 w
  | 7, _ => exact index_row17 w
  | r + 8, h => omega
theorem index_row2 (r : Nat) (h : r < 8) (w : World) : (Instr.index 83 (.agg (rowC 2)) (.int .i64 (r : Nat))).run Tryz.prog w = .ok (.int .i64 (tabAt 2 r)) w := by
  match r, h with
  | 0, _ => exact index_row20 w
  | 1, _ => exact index_row21 w
  | 2, _ => exact index_row22 w
  | 3, _ => exact index_row23 w
  | 4, _ => exact index_row24 w
  | 5, _ => exact index_row25 w
  | 6, _ => exact index_row26 w
  | 7, _ => exact index_row27 w
  | r + 8, h => omega
theorem index_row3 (r : Nat) (h : r < 8) (w : World) : (Instr.index 83 (.agg (rowC 3)) (.int .i64 (r : Nat))).run Tryz.prog w = .ok (.int .i64 (tabAt 3 r)) w := by
  match r, h with
  | 0, _ => exact index_row30 w
  | 1, _ => exact index_row31 w
  | 2, _ => exact index_row32 w
  | 3, _ => exact index_row33 w
  | 4, _ => exact index_row34 w
  | 5, _ => exact index_row35 w
  | 6, _ => exact index_row36 w
  | 7, _ => exact index_row37 w
  | r + 8, h => omega
theorem index_row4 (r : Nat) (h : r < 8) (w : World) : (Instr.index 83 (.agg (rowC 4)) (.int .i64 (r : Nat))).run Tryz.prog w = .ok (.int .i64 (tabAt 4 r)) w := by
  match r, h with
  | 0, _ => exact index_row40 w
  | 1, _ => exact index_row41 w
  | 2, _ => exact index_row42 w
  | 3, _ => exact index_row43 w
  | 4, _ => exact index_row44 w
  | 5, _ => exact index_row45 w
  | 6, _ => exact index_row46 w
  | 7, _ => exact index_row47 w
  | r + 8, h => omega
theorem index_row5 (r : Nat) (h : r < 8) (w : World) : (Instr.index 83 (.agg (rowC 5)) (.int .i64 (r : Nat))).run Tryz.prog w = .ok (.int .i64 (tabAt 5 r)) w := by
  match r, h with
  | 0, _ => exact index_row50 w
  | 1, _ => exact index_row51 w
  | 2, _ => exact index_row52 w
  | 3, _ => exact index_row53 w
  | 4, _ => exact index_row54 w
  | 5, _ => exact index_row55 w
  | 6, _ => exact index_row56 w
  | 7, _ => exact index_row57 w
  | r + 8, h => omega
theorem index_row6 (r : Nat) (h : r < 8) (w : World) : (Instr.index 83 (.agg (rowC 6)) (.int .i64 (r : Nat))).run Tryz.prog w = .ok (.int .i64 (tabAt 6 r)) w := by
  match r, h with
  | 0, _ => exact index_row60 w
  | 1, _ => exact index_row61 w
  | 2, _ => exact index_row62 w
  | 3, _ => exact index_row63 w
  | 4, _ => exact index_row64 w
  | 5, _ => exact index_row65 w
  | 6, _ => exact index_row66 w
  | 7, _ => exact index_row67 w
  | r + 8, h => omega
theorem index_row7 (r : Nat) (h : r < 8) (w : World) : (Instr.index 83 (.agg (rowC 7)) (.int .i64 (r : Nat))).run Tryz.prog w = .ok (.int .i64 (tabAt 7 r)) w := by
  match r, h with
  | 0, _ => exact index_row70 w
  | 1, _ => exact index_row71 w
  | 2, _ => exact index_row72 w
  | 3, _ => exact index_row73 w
  | 4, _ => exact index_row74 w
  | 5, _ => exact index_row75 w
  | 6, _ => exact index_row76 w
  | 7, _ => exact index_row77 w
  | r + 8, h => omega
theorem index_row (l r : Nat) (hl : l < 8) (hr : r < 8) (w : World) : (Instr.index 83 (.agg (rowC l)) (.int .i64 (r : Nat))).run Tryz.prog w = .ok (.int .i64 (tabAt l r)) w := by
  match l, hl with
  | 0, _ => exact index_row0 r hr w
  | 1, _ => exact index_row1 r hr w
  | 2, _ => exact index_row2 r hr w
  | 3, _ => exact index_row3 r hr w
  | 4, _ => exact index_row4 r hr w
  | 5, _ => exact index_row5 r hr w
  | 6, _ => exact index_row6 r hr w
  | 7, _ => exact index_row7 r hr w
  | l + 8, h => omega
theorem tab_bd : ∀ l r : Nat, l < 8 → r < 8 → -3 ≤ tabAt l r ∧ tabAt l r ≤ 1 := by
  have h : (List.range 8).all (fun l => (List.range 8).all fun r => decide (-3 ≤ tabAt l r) && decide (tabAt l r ≤ 1)) = true := by decide
  intro l r hl hr
  have h1 := List.all_eq_true.1 h l (List.mem_range.2 hl)
  have h2 := List.all_eq_true.1 h1 r (List.mem_range.2 hr)
  simpa using h2
/-- a quotient, rounded -/
def rndP (a b : Int) : Int := if b - a % b ≤ a % b then a / b + 1 else a / b
/-- the number of a space in a level -/
def spc (l r : Nat) (level : Int) : Int := if tabAt l r < 0 then (if 1 < level then 0 else -tabAt l r) else tabAt l r
def lenP (quad : Int) (l r : Nat) (level : Int) : Int := if spc l r level = 0 then 0 else rndP (quad * (spc l r level + 2)) 18
set_option maxHeartbeats 400000 in
theorem lvalid_any (n : Int) (w : World) (h0 : -1073741824 ≤ n) (h1 : n ≤ 1073741824) : Calls Tryz.prog 37 #[.int .i64 n] w fun e w' => e = .returned (.bool true) ∧ w = w' := by
  go_enter Tryz.func37, Tryz.ntmps37
  go_wp2_with fail
  go_ret
  exact ⟨rfl, rfl⟩
set_option maxHeartbeats 400000 in
theorem quot_any (a b : Int) (w : World) (ha : 0 ≤ a) (ha1 : a ≤ 4611686018427387904) (hb : 1 ≤ b) (hb1 : b ≤ 1000000) : Calls Tryz.prog 38 #[.int .i64 a, .int .i64 b] w fun e w' => e = .returned (.int .i64 (rndP a b)) ∧ Below w.heap.size w w' := by
  have r0 : 0 ≤ a % b := Int.emod_nonneg _ (by omega)
  have r1 : a % b < b := Int.emod_lt_of_pos _ (by omega)
  have q0 : 0 ≤ a / b := Int.ediv_nonneg ha (by omega)
  have q1 : a / b ≤ a := Int.ediv_le_self _ ha
  have HQ := Lib.hid (show rndP a b = if b - a % b ≤ a % b then a / b + 1 else a / b from rfl)
  by_cases h : b - a % b ≤ a % b
  · rw [if_pos h] at HQ
    go_enter Tryz.func38, Tryz.ntmps38
    go_wp2_with fail
    go_quiet (fail)
    go_wp2_with fail
    go_ret
    exact ⟨ret_int HQ.out.symm, below_drewN (Below.refl _ _) nq⟩
  · rw [if_neg h] at HQ
    go_enter Tryz.func38, Tryz.ntmps38
    go_wp2_with fail
    go_quiet (fail)
    go_wp2_with fail
    go_ret
    exact ⟨ret_int HQ.out.symm, below_drewN (Below.refl _ _) nq⟩
set_option maxHeartbeats 400000 in
theorem scale_any (n p : Int) (w : World) (h0 : 0 ≤ n) (h1 : n ≤ 1073741824) (p0 : 0 ≤ p) (p1 : p ≤ 10000) : Calls Tryz.prog 20 #[.int .i64 n, .int .i64 p] w fun e w' => e = .returned (.int .i64 (rndP (n * p) 100)) ∧ Below w.heap.size w w' := by
  have m0 : 0 ≤ n * p := Int.mul_nonneg h0 p0
  have m1 : n * p ≤ 1073741824 * 10000 := Int.mul_le_mul h1 p1 p0 (by omega)
  have HW := Lib.hid (show IntKind.i64.wrap (n * p) = n * p from IntWalk.i64_in _ (by omega))
  go_enter Tryz.func20, Tryz.ntmps20
  go_wp2_with fail
  refine (lvalid_any n _ (by omega) (by omega)).mono ?_
  rintro e w1 ⟨rfl, rfl⟩
  have hw := HW.out
  go_wp2_with fail
  refine (quot_any (n * p) 100 _ m0 (by omega) (by omega) (by omega)).mono ?_
  rintro e w1 ⟨rfl, hb⟩
  have HB := Lib.hid hb
  clear hb
  go_wp2_with fail
  go_ret
  exact ⟨rfl, HB.out⟩
set_option maxHeartbeats 400000 in
theorem muldiv_any (n a : Int) (w : World) (h0 : 0 ≤ n) (h1 : n ≤ 1073741824) (a0 : 0 ≤ a) (a1 : a ≤ 1000) : Calls Tryz.prog 42 #[.int .i64 n, .int .i64 a, .int .i64 18] w fun e w' => e = .returned (.int .i64 (rndP (n * a) 18)) ∧ Below w.heap.size w w' := by
  have m0 : 0 ≤ n * a := Int.mul_nonneg h0 a0
  have m1 : n * a ≤ 1073741824 * 1000 := Int.mul_le_mul h1 a1 a0 (by omega)
  have HW := Lib.hid (show IntKind.i64.wrap (n * a) = n * a from IntWalk.i64_in _ (by omega))
  go_enter Tryz.func42, Tryz.ntmps42
  go_wp2_with fail
  refine (lvalid_any n _ (by omega) (by omega)).mono ?_
  rintro e w1 ⟨rfl, rfl⟩
  go_wp2_with fail
  refine (lvalid_any a _ (by omega) (by omega)).mono ?_
  rintro e w1 ⟨rfl, rfl⟩
  go_wp2_with fail
  refine (lvalid_any 18 _ (by omega) (by omega)).mono ?_
  rintro e w1 ⟨rfl, rfl⟩
  have hw := HW.out
  go_wp2_with fail
  refine (quot_any (n * a) 18 _ m0 (by omega) (by omega) (by omega)).mono ?_
  rintro e w1 ⟨rfl, hb⟩
  have HB := Lib.hid hb
  clear hb
  go_wp2_with fail
  go_ret
  exact ⟨rfl, HB.out⟩
set_option maxRecDepth 100000 in
set_option maxHeartbeats 400000 in
theorem table_any (w : World) : Calls Tryz.prog 41 #[] w fun e w' => e = .returned (.agg tabC) ∧ Below w.heap.size w w' := by
  have hl := run_loadVar_new (P := Tryz.prog) w 84 tabC 8 83 Tryz.underlying84 (by kernel_rfl)
  go_enter Tryz.func41, Tryz.ntmps41
  go_wp2_with (first
    | (refine wpList_build_to rfl 84 #[(0, .tmp 1), (1, .tmp 2), (2, .tmp 3), (3, .tmp 4), (4, .tmp 5), (5, .tmp 6), (6, .tmp 7), (7, .tmp 8)] rfl tabC (by kernel_rfl) ?_)
    | (refine wpList_store_row (by rfl) 84 (.tmp 0) (.tmp 9) (by rfl) w.heap.size tabC (by rfl) (by rfl) 84 _ (heap_alloc_new w _) (by kernel_rfl) (by rfl) (by kernel_rfl) ?_; rw [World.setRow_alloc_new]))
  refine bodyPost_ret (v := .agg tabC) (by simp [results, Tryz.results41, Act.put, asAddr, hl]) rfl ⟨rfl, bel_alloc _ _⟩
set_option maxRecDepth 100000 in
set_option maxHeartbeats 800000 in
theorem space_any (quad : Int) (l r : Nat) (level : Int) (cr : Bool) (w : World) (h0 : 0 ≤ quad) (h1 : quad ≤ 1073741824) (hl : l < 8) (hr : r < 8) : Calls Tryz.prog 22 #[.int .i64 quad, .int .i64 l, .int .i64 r, .agg #[.int .i64 level, .bool cr]] w fun e w' => e = .returned (.int .i64 (lenP quad l r level)) ∧ Below w.heap.size w w' := by
  have HQ := Lib.hid (show lenP quad l r level = if spc l r level = 0 then 0 else rndP (quad * (spc l r level + 2)) 18 from rfl)
  have HS := Lib.hid (show spc l r level = if tabAt l r < 0 then (if 1 < level then 0 else -tabAt l r) else tabAt l r from rfl)
  have x1 := fun w => index_tab l hl w
  have x2 := fun w => index_row l r hl hr w
  obtain ⟨b1, b2⟩ := tab_bd l r hl hr
  generalize tabAt l r = t at *
  go_enter Tryz.func22, Tryz.ntmps22
  go_wp2_with fail
  have K0 := Lib.hid (Blk.new w 33 #[.int .i64 level, .bool cr])
  have H0 := Lib.hid (bel_alloc w (.cells #[.int .i64 level, .bool cr] 33))
  generalize w.alloc (.cells #[.int .i64 level, .bool cr] 33) = w1 at *
  refine (table_any w1).mono ?_
  rintro e w2 ⟨rfl, hb⟩
  have K0 := Lib.hid (keep hb K0.out)
  have H0 := Lib.hid (H0.out.trans (hb.mono H0.out.size))
  clear hb
  have c0 := K0.out.cell 0
  by_cases ht : t < 0
  · rw [if_pos ht] at HS
    by_cases hlv : 1 < level
    · rw [if_pos hlv] at HS
      rw [HS.out, if_pos rfl] at HQ
      go_wp2_with fail
      go_ret
      exact ⟨ret_int HQ.out.symm, H0.out⟩
    · rw [if_neg hlv] at HS
      rw [HS.out, if_neg (by omega)] at HQ
      have hq0 : ((-t : Int) == 0) = false := by rw [beq_eq_false_iff_ne]; omega
      have hq1 : (t == 0) = false := by rw [beq_eq_false_iff_ne]; omega
      go_wp2_with fail
      refine (muldiv_any quad (-t + 2) _ h0 h1 (by omega) (by omega)).mono ?_
      rintro e w3 ⟨rfl, hb⟩
      have HB := Lib.hid (H0.out.trans (hb.mono H0.out.size))
      clear hb
      go_wp2_with fail
      go_ret
      exact ⟨ret_int HQ.out.symm, HB.out⟩
  · rw [if_neg ht] at HS
    by_cases hz : t = 0
    · subst hz
      rw [HS.out, if_pos rfl] at HQ
      go_wp2_with fail
      go_ret
      exact ⟨ret_int HQ.out.symm, H0.out⟩
    · rw [HS.out, if_neg hz] at HQ
      have hq1 : (t == 0) = false := beq_eq_false_iff_ne.2 hz
      clear hz
      go_wp2_with fail
      refine (muldiv_any quad (t + 2) _ h0 h1 (by omega) (by omega)).mono ?_
      rintro e w3 ⟨rfl, hb⟩
      have HB := Lib.hid (H0.out.trans (hb.mono H0.out.size))
      clear hb
      go_wp2_with fail
      go_ret
      exact ⟨ret_int HQ.out.symm, HB.out⟩
end Go.Proofs.YtgoafobhhmeppaaGreat
