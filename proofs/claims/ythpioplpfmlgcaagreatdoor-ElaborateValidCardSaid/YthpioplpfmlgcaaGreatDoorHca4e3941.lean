/- The checker of trees: its table of kinds · own of the program's checker -/
import Derived.Test.YthpioplpfmlgcaaGreatDoorH9f6b92c3
import Derived.Deep.WholeRow
import Derived.Deep.QuietTactic
import Derived.BigQuiet
namespace Go.Proofs.YthpioplpfmlgcaaGreatDoor.At
open Go.RowKit
def kindsC : Array Value := #[.string ⟨#[]⟩, .int .i64 0, .nilFunc, .string ⟨#[114, 111, 119]⟩, .int .i64 0, .func (.func 96) #[] #[], .string ⟨#[115, 121, 109]⟩, .int .i64 0, .func (.func 93) #[] #[], .string ⟨#[110, 117, 109]⟩, .int .i64 0, .func (.func 97) #[] #[], .string ⟨#[116, 101, 120, 116]⟩, .int .i64 0, .func (.func 98) #[] #[], .string ⟨#[102, 114, 97, 99]⟩, .int .i64 2, .func (.func 96) #[] #[], .string ⟨#[114, 111, 111, 116]⟩, .int .i64 2, .func (.func 96) #[] #[], .string ⟨#[115, 117, 98]⟩, .int .i64 2, .func (.func 96) #[] #[], .string ⟨#[115, 117, 112]⟩, .int .i64 2, .func (.func 96) #[] #[], .string ⟨#[98, 111, 116, 104]⟩, .int .i64 3, .func (.func 96) #[] #[], .string ⟨#[97, 99, 99, 101, 110, 116]⟩, .int .i64 1, .func (.func 99) #[] #[], .string ⟨#[102, 101, 110, 99, 101]⟩, .int .i64 1, .func (.func 100) #[] #[], .string ⟨#[109, 97, 116, 114, 105, 120]⟩, .int .i64 0, .func (.func 96) #[] #[]]
def chkC (n : Int) : Array Value := #[.string ⟨#[]⟩, .int .i64 0, .nilFunc, .string ⟨#[114, 111, 119]⟩, .int .i64 0, .func (.func 96) #[] #[], .string ⟨#[115, 121, 109]⟩, .int .i64 0, .func (.func 93) #[] #[], .string ⟨#[110, 117, 109]⟩, .int .i64 0, .func (.func 97) #[] #[], .string ⟨#[116, 101, 120, 116]⟩, .int .i64 0, .func (.func 98) #[] #[], .string ⟨#[102, 114, 97, 99]⟩, .int .i64 2, .func (.func 96) #[] #[], .string ⟨#[114, 111, 111, 116]⟩, .int .i64 2, .func (.func 96) #[] #[], .string ⟨#[115, 117, 98]⟩, .int .i64 2, .func (.func 96) #[] #[], .string ⟨#[115, 117, 112]⟩, .int .i64 2, .func (.func 96) #[] #[], .string ⟨#[98, 111, 116, 104]⟩, .int .i64 3, .func (.func 96) #[] #[], .string ⟨#[97, 99, 99, 101, 110, 116]⟩, .int .i64 1, .func (.func 99) #[] #[], .string ⟨#[102, 101, 110, 99, 101]⟩, .int .i64 1, .func (.func 100) #[] #[], .string ⟨#[109, 97, 116, 114, 105, 120]⟩, .int .i64 0, .func (.func 96) #[] #[], .int .i64 n]
set_option maxRecDepth 100000 in
set_option maxHeartbeats 400000 in
theorem kinds_any (w : World) : Calls Tryz.prog 60 #[] w fun e w' => e = .returned (.agg kindsC) ∧ Below w.heap.size w w' := by
  have hl := run_loadVar_new (P := Tryz.prog) w 97 kindsC 13 96 Tryz.underlying97 (by kernel_rfl)
  go_enter Tryz.func60, Tryz.ntmps60
  go_wp2_with (refine wpList_store_row (by rfl) 97 (.tmp 0) (.tmp 13) (by rfl) w.heap.size kindsC (by rfl) (by rfl) 97 _ (heap_alloc_new w _) (by kernel_rfl) (by rfl) (by kernel_rfl) ?_; rw [World.setRow_alloc_new])
  refine bodyPost_ret (v := .agg kindsC) (by simp [results, Tryz.results60, Act.put, asAddr, hl]) rfl ⟨rfl, bel_alloc _ _⟩
end Go.Proofs.YthpioplpfmlgcaaGreatDoor.At
namespace Go.Proofs.YthpioplpfmlgcaaGreatDoor.At
open Go.RowKit
def slotsN (k : Nat) : Int := if k = 5 ∨ k = 6 ∨ k = 7 ∨ k = 8 then 2 else if k = 9 then 3 else if k = 10 ∨ k = 11 then 1 else 0
theorem chk_slots (k : Nat) (h : k ≤ 12) (n : Int) : (chkC n)[k * 3 + 1]? = some (.int .i64 (slotsN k)) := by
  match k, h with
  | 0, _ => rfl
  | 1, _ => rfl
  | 2, _ => rfl
  | 3, _ => rfl
  | 4, _ => rfl
  | 5, _ => rfl
  | 6, _ => rfl
  | 7, _ => rfl
  | 8, _ => rfl
  | 9, _ => rfl
  | 10, _ => rfl
  | 11, _ => rfl
  | 12, _ => rfl
  | k + 13, h => omega
theorem isSymB (s : ByteArray) : symB s.toList = textB 2 s.data.toList := by rw [tl]; rfl
/-- the function that looks at the text of a node of a kind -/
theorem text_fn (k : Nat) (h1 : 1 ≤ k) (h12 : k ≤ 12) (s : ByteArray) (hs : s.size ≤ 9223372036854775807) : ∃ F : FuncId, (∀ n, (chkC n)[k * 3 + 2]? = some (.func (.func F) #[] #[])) ∧ (∀ args w, (callFunc F args).run Tryz.prog w = .ok (.enter F args) w) ∧ (∀ w, Calls Tryz.prog F #[.string s] w fun e w' => e = .returned (.bool (textB k s.data.toList)) ∧ Below w.heap.size w w') := by
  have hl : s.data.toList.length = s.size := by simp
  have he : ∀ w, Calls Tryz.prog 96 #[.string s] w fun e w' => e = .returned (.bool s.data.toList.isEmpty) ∧ Below w.heap.size w w' := fun w => by
    refine (empty_any s w).mono ?_
    rintro e w1 ⟨rfl, rfl⟩
    exact ⟨by rw [tl], Below.refl _ _⟩
  match k, h1, h12 with
  | 1, _, _ => exact ⟨96, fun _ => rfl, fun args w => by kernel_rfl, he⟩
  | 2, _, _ => exact ⟨93, fun _ => rfl, fun args w => by kernel_rfl, fun w => by
      refine (sym_any s w hs).mono ?_
      rintro e w1 ⟨rfl, hb⟩
      exact ⟨by rw [isSymB]; rfl, hb⟩⟩
  | 3, _, _ => exact ⟨97, fun _ => rfl, fun args w => by kernel_rfl, fun w => nnum_any s w hs⟩
  | 4, _, _ => exact ⟨98, fun _ => rfl, fun args w => by kernel_rfl, fun w => by
      refine (plain_any s w hs).mono ?_
      rintro e w1 ⟨rfl, rfl⟩
      exact ⟨by rw [← hl, tl]; rfl, Below.refl _ _⟩⟩
  | 5, _, _ => exact ⟨96, fun _ => rfl, fun args w => by kernel_rfl, he⟩
  | 6, _, _ => exact ⟨96, fun _ => rfl, fun args w => by kernel_rfl, he⟩
  | 7, _, _ => exact ⟨96, fun _ => rfl, fun args w => by kernel_rfl, he⟩
  | 8, _, _ => exact ⟨96, fun _ => rfl, fun args w => by kernel_rfl, he⟩
  | 9, _, _ => exact ⟨96, fun _ => rfl, fun args w => by kernel_rfl, he⟩
  | 10, _, _ => exact ⟨99, fun _ => rfl, fun args w => by kernel_rfl, fun w => by
      refine (accent_any s w).mono ?_
      rintro e w1 ⟨rfl, rfl⟩
      exact ⟨by rw [tl]; rfl, Below.refl _ _⟩⟩
  | 11, _, _ => exact ⟨100, fun _ => rfl, fun args w => by kernel_rfl, fun w => fence_any s w⟩
  | 12, _, _ => exact ⟨96, fun _ => rfl, fun args w => by kernel_rfl, he⟩
theorem own_out {k : Int} {s : List UInt8} {c : Int} {n : Nat} (h : k < 1 ∨ 12 < k) : ownT k s c n = false := by
  unfold ownT kidsB
  rw [if_neg (by omega), if_neg (by omega), if_neg (by omega), if_neg (by omega), if_neg (by omega), if_neg (by omega), Bool.and_false, Bool.and_false]
set_option maxRecDepth 100000 in
set_option maxHeartbeats 1600000 in
theorem own_lo (gc : Nat) (n : Int) (p : Addr) (k : Int) (s : ByteArray) (cols : Int) (ks : List Tre) (A : Option Addr) (cap : Nat) (w : World) (hP : PtrAt w p (.mk k s cols ks) A cap) (hC : Blk w gc 100 (chkC n)) (hk : k < 1 ∨ 12 < k) : Calls Tryz.prog 101 #[.pointer (some ⟨gc, 0, none⟩), .pointer (some p)] w fun e w' => e = .returned (.bool (ownT k s.data.toList cols ks.length)) ∧ Below w.heap.size w w' := by
  have HP := Lib.hid hP
  have HC := Lib.hid hC
  have HQ := Lib.hid (own_out (s := s.data.toList) (c := cols) (n := ks.length) hk)
  clear hP hC
  by_cases h1 : k < 1
  · clear hk
    go_enter Tryz.func101, Tryz.ntmps101
    go_upto_region 1 with (fail)
    refine region_list (by kernel_rfl) _ [.pointer (some p), .pointer (some p), .pointer (some p), .int .i64 k, .bool true, .bool true, undef, undef, undef, undef, undef, .bool true, .bool true, undef, undef, undef, undef, undef, undef, undef, undef, undef, undef, undef, undef, undef, undef, undef, undef, .bool true] [true, true, true, true, true, true, false, false, false, false, false, true, true, false, false, false, false, false, false, false, false, false, false, false, false, false, false, false, false, true] (fun wq => Hid (PtrAt wq p (.mk k s cols ks) A cap) ∧ Hid (Blk wq gc 100 (chkC n)) ∧ Hid (Below w.heap.size w wq)) (by kernel_rfl) (by simp [fin, finOn, dstAt, List.range, List.range.loop, Act.put]; rfl) (by kernel_rfl) ⟨HP.out.drew, HC.out.drew, below_drew (Below.refl _ _)⟩ ?_ ?_
    · refine ⟨fun wq hI => ?_, fun wq hI => ?_, fun wq hI => ?_, fun wq hI => ?_, fun wq hI => ?_, fun wq hI => ?_, rfl, rfl, rfl, rfl, rfl, fun wq hI => ?_, fun wq hI => ?_, rfl, rfl, rfl, rfl, rfl, rfl, rfl, rfl, rfl, rfl, rfl, rfl, rfl, rfl, rfl, rfl, fun wq hI => ?_, trivial⟩
      · exact Gives.value (v := .pointer (some p)) (w' := wq) (by kernel_rfl) ⟨rfl, hI⟩
      · exact Gives.value (v := .pointer (some p)) (w' := wq) (by simp [go_sem]) ⟨rfl, hI⟩
      · exact Gives.value (v := .pointer (some p)) (w' := wq) (by simp [go_sem]) ⟨rfl, hI⟩
      · have cJ : wq.cell? p = some (.int .i64 k) := hI.1.out.kind
        exact Gives.value (v := .int .i64 k) (w' := wq) (by simp [go_sem, cJ]) ⟨rfl, hI⟩
      · skip
        exact Gives.value (v := .bool true) (w' := wq) (by simp [go_sem, h1]) ⟨rfl, hI⟩
      · exact Gives.value (v := .bool true) (w' := wq) (by kernel_rfl) ⟨rfl, hI⟩
      · exact Gives.value (v := .bool true) (w' := wq) (by kernel_rfl) ⟨rfl, hI⟩
      · exact Gives.value (v := .bool true) (w' := wq) (by kernel_rfl) ⟨rfl, hI⟩
      · exact Gives.value (v := .bool true) (w' := wq) (by kernel_rfl) ⟨rfl, hI⟩
    · intro wq hI
      have HB := hI.2.2
      clear hI
      go_wp2_with fail
      go_ret
      exact ⟨ret_bool HQ.out.symm, HB.out⟩
  · have h12 : 12 < k := by omega
    clear hk
    go_enter Tryz.func101, Tryz.ntmps101
    go_upto_region 1 with (fail)
    refine region_list (by kernel_rfl) _ [.pointer (some p), .pointer (some p), .pointer (some p), .int .i64 k, .bool false, .bool false, .pointer (some p), .pointer (some p), .pointer (some p), .int .i64 k, .bool true, .bool true, .bool true, undef, undef, undef, undef, undef, undef, undef, undef, undef, undef, undef, undef, undef, undef, undef, undef, .bool true] [true, true, true, true, true, true, true, true, true, true, true, true, true, false, false, false, false, false, false, false, false, false, false, false, false, false, false, false, false, true] (fun wq => Hid (PtrAt wq p (.mk k s cols ks) A cap) ∧ Hid (Blk wq gc 100 (chkC n)) ∧ Hid (Below w.heap.size w wq)) (by kernel_rfl) (by simp [fin, finOn, dstAt, List.range, List.range.loop, Act.put]; rfl) (by kernel_rfl) ⟨HP.out.drew, HC.out.drew, below_drew (Below.refl _ _)⟩ ?_ ?_
    · refine ⟨fun wq hI => ?_, fun wq hI => ?_, fun wq hI => ?_, fun wq hI => ?_, fun wq hI => ?_, fun wq hI => ?_, fun wq hI => ?_, fun wq hI => ?_, fun wq hI => ?_, fun wq hI => ?_, fun wq hI => ?_, fun wq hI => ?_, fun wq hI => ?_, rfl, rfl, rfl, rfl, rfl, rfl, rfl, rfl, rfl, rfl, rfl, rfl, rfl, rfl, rfl, rfl, fun wq hI => ?_, trivial⟩
      · exact Gives.value (v := .pointer (some p)) (w' := wq) (by kernel_rfl) ⟨rfl, hI⟩
      · exact Gives.value (v := .pointer (some p)) (w' := wq) (by simp [go_sem]) ⟨rfl, hI⟩
      · exact Gives.value (v := .pointer (some p)) (w' := wq) (by simp [go_sem]) ⟨rfl, hI⟩
      · have cJ : wq.cell? p = some (.int .i64 k) := hI.1.out.kind
        exact Gives.value (v := .int .i64 k) (w' := wq) (by simp [go_sem, cJ]) ⟨rfl, hI⟩
      · skip
        exact Gives.value (v := .bool false) (w' := wq) (by simp [go_sem]; omega) ⟨rfl, hI⟩
      · exact Gives.value (v := .bool false) (w' := wq) (by kernel_rfl) ⟨rfl, hI⟩
      · exact Gives.value (v := .pointer (some p)) (w' := wq) (by kernel_rfl) ⟨rfl, hI⟩
      · exact Gives.value (v := .pointer (some p)) (w' := wq) (by simp [go_sem]) ⟨rfl, hI⟩
      · exact Gives.value (v := .pointer (some p)) (w' := wq) (by simp [go_sem]) ⟨rfl, hI⟩
      · have cJ : wq.cell? p = some (.int .i64 k) := hI.1.out.kind
        exact Gives.value (v := .int .i64 k) (w' := wq) (by simp [go_sem, cJ]) ⟨rfl, hI⟩
      · skip
        exact Gives.value (v := .bool true) (w' := wq) (by simp [go_sem, h12]) ⟨rfl, hI⟩
      · exact Gives.value (v := .bool true) (w' := wq) (by kernel_rfl) ⟨rfl, hI⟩
      · exact Gives.value (v := .bool true) (w' := wq) (by kernel_rfl) ⟨rfl, hI⟩
      · exact Gives.value (v := .bool true) (w' := wq) (by kernel_rfl) ⟨rfl, hI⟩
    · intro wq hI
      have HB := hI.2.2
      clear hI
      go_wp2_with fail
      go_ret
      exact ⟨ret_bool HQ.out.symm, HB.out⟩
set_option maxRecDepth 100000 in
set_option maxHeartbeats 1600000 in
theorem own_bad (gc : Nat) (n : Int) (p : Addr) (kk : Nat) (s : ByteArray) (cols : Int) (ks : List Tre) (A : Option Addr) (cap : Nat) (w : World) (hP : PtrAt w p (.mk kk s cols ks) A cap) (hC : Blk w gc 100 (chkC n)) (hk1 : 1 ≤ kk) (hk12 : kk ≤ 12) (htb : textB kk s.data.toList = false) : Calls Tryz.prog 101 #[.pointer (some ⟨gc, 0, none⟩), .pointer (some p)] w fun e w' => e = .returned (.bool (ownT kk s.data.toList cols ks.length)) ∧ Below w.heap.size w w' := by
  obtain ⟨F, hF, hE, hT⟩ := text_fn kk hk1 hk12 s hP.size
  have HP := Lib.hid hP
  have HC := Lib.hid hC
  have HF := Lib.hid hF
  have HE := Lib.hid hE
  have HT := Lib.hid hT
  have HTB := Lib.hid htb
  have HQ := Lib.hid (show ownT kk s.data.toList cols ks.length = false by unfold ownT; rw [htb]; rfl)
  clear hP hC hF hE hT htb
  go_enter Tryz.func101, Tryz.ntmps101
  go_upto_region 1 with (fail)
  · skip
    refine region_list (by kernel_rfl) _ [.pointer (some p), .pointer (some p), .pointer (some p), .int .i64 (kk : Int), .bool false, .bool false, .pointer (some p), .pointer (some p), .pointer (some p), .int .i64 (kk : Int), .bool false, .bool false, .bool false, .pointer (some ⟨gc, 0, none⟩), .pointer (some p), .pointer (some p), .pointer (some p), .int .i64 (kk : Int), .pointer (some ⟨gc, 0, none⟩), .pointer (some ⟨gc, 0, none⟩), .pointer (some ⟨gc, kk * 3, none⟩), .pointer (some ⟨gc, kk * 3 + 2, none⟩), .func (.func F) #[] #[], .pointer (some p), .pointer (some p), .pointer (some ⟨p.block, p.off + 1, none⟩), .string s, .bool false, .bool true, .bool true] [true, true, true, true, true, true, true, true, true, true, true, true, true, true, true, true, true, true, true, true, true, true, true, true, true, true, true, true, true, true] (fun wq => Hid (PtrAt wq p (.mk (kk : Int) s cols ks) A cap) ∧ Hid (Blk wq gc 100 (chkC n)) ∧ Hid (Below w.heap.size w wq)) (by kernel_rfl) (by simp [fin, finOn, dstAt, List.range, List.range.loop, Act.put]; rfl) (by kernel_rfl) ⟨HP.out.drew, HC.out.drew, below_drew (Below.refl _ _)⟩ ?_ ?_
    · refine ⟨fun wq hI => ?_, fun wq hI => ?_, fun wq hI => ?_, fun wq hI => ?_, fun wq hI => ?_, fun wq hI => ?_, fun wq hI => ?_, fun wq hI => ?_, fun wq hI => ?_, fun wq hI => ?_, fun wq hI => ?_, fun wq hI => ?_, fun wq hI => ?_, fun wq hI => ?_, fun wq hI => ?_, fun wq hI => ?_, fun wq hI => ?_, fun wq hI => ?_, fun wq hI => ?_, fun wq hI => ?_, fun wq hI => ?_, fun wq hI => ?_, fun wq hI => ?_, fun wq hI => ?_, fun wq hI => ?_, fun wq hI => ?_, fun wq hI => ?_, fun wq hI => ?_, fun wq hI => ?_, fun wq hI => ?_, trivial⟩
      · exact Gives.value (v := .pointer (some p)) (w' := wq) (by kernel_rfl) ⟨rfl, hI⟩
      · exact Gives.value (v := .pointer (some p)) (w' := wq) (by simp [go_sem]) ⟨rfl, hI⟩
      · exact Gives.value (v := .pointer (some p)) (w' := wq) (by simp [go_sem]) ⟨rfl, hI⟩
      · have cJ : wq.cell? p = some (.int .i64 (kk : Int)) := hI.1.out.kind
        exact Gives.value (v := .int .i64 (kk : Int)) (w' := wq) (by simp [go_sem, cJ]) ⟨rfl, hI⟩
      · skip
        exact Gives.value (v := .bool false) (w' := wq) (by simp [go_sem]; omega) ⟨rfl, hI⟩
      · exact Gives.value (v := .bool false) (w' := wq) (by kernel_rfl) ⟨rfl, hI⟩
      · exact Gives.value (v := .pointer (some p)) (w' := wq) (by kernel_rfl) ⟨rfl, hI⟩
      · exact Gives.value (v := .pointer (some p)) (w' := wq) (by simp [go_sem]) ⟨rfl, hI⟩
      · exact Gives.value (v := .pointer (some p)) (w' := wq) (by simp [go_sem]) ⟨rfl, hI⟩
      · have cJ : wq.cell? p = some (.int .i64 (kk : Int)) := hI.1.out.kind
        exact Gives.value (v := .int .i64 (kk : Int)) (w' := wq) (by simp [go_sem, cJ]) ⟨rfl, hI⟩
      · skip
        exact Gives.value (v := .bool false) (w' := wq) (by simp [go_sem]; omega) ⟨rfl, hI⟩
      · exact Gives.value (v := .bool false) (w' := wq) (by kernel_rfl) ⟨rfl, hI⟩
      · exact Gives.value (v := .bool false) (w' := wq) (by kernel_rfl) ⟨rfl, hI⟩
      · exact Gives.value (v := .pointer (some ⟨gc, 0, none⟩)) (w' := wq) (by kernel_rfl) ⟨rfl, hI⟩
      · exact Gives.value (v := .pointer (some p)) (w' := wq) (by kernel_rfl) ⟨rfl, hI⟩
      · exact Gives.value (v := .pointer (some p)) (w' := wq) (by simp [go_sem]) ⟨rfl, hI⟩
      · exact Gives.value (v := .pointer (some p)) (w' := wq) (by simp [go_sem]) ⟨rfl, hI⟩
      · have cJ : wq.cell? p = some (.int .i64 (kk : Int)) := hI.1.out.kind
        exact Gives.value (v := .int .i64 (kk : Int)) (w' := wq) (by simp [go_sem, cJ]) ⟨rfl, hI⟩
      · exact Gives.value (v := .pointer (some ⟨gc, 0, none⟩)) (w' := wq) (by simp [go_sem]) ⟨rfl, hI⟩
      · exact Gives.value (v := .pointer (some ⟨gc, 0, none⟩)) (w' := wq) (by simp [go_sem]) ⟨rfl, hI⟩
      · have hidx := hk12
        exact Gives.value (v := .pointer (some ⟨gc, kk * 3, none⟩)) (w' := wq) (by simp [go_sem]; try omega) ⟨rfl, hI⟩
      · exact Gives.value (v := .pointer (some ⟨gc, kk * 3 + 2, none⟩)) (w' := wq) (by simp [go_sem]) ⟨rfl, hI⟩
      · have cJ : wq.cell? ⟨gc, kk * 3 + 2, none⟩ = some (.func (.func F) #[] #[]) := (hI.2.1.out.cell _).trans (HF.out n)
        exact Gives.value (v := .func (.func F) #[] #[]) (w' := wq) (by simp [go_sem, cJ]) ⟨rfl, hI⟩
      · exact Gives.value (v := .pointer (some p)) (w' := wq) (by kernel_rfl) ⟨rfl, hI⟩
      · exact Gives.value (v := .pointer (some p)) (w' := wq) (by simp [go_sem]) ⟨rfl, hI⟩
      · exact Gives.value (v := .pointer (some ⟨p.block, p.off + 1, none⟩)) (w' := wq) (by simp [go_sem]) ⟨rfl, hI⟩
      · have cJ : wq.cell? ⟨p.block, p.off + 1, none⟩ = some (.string s) := hI.1.out.text
        exact Gives.value (v := .string s) (w' := wq) (by simp [go_sem, cJ]) ⟨rfl, hI⟩
      · refine Gives.call (f := F) (args := #[.string s]) (w' := wq) (by simp [execOp, Act.eval, go_sem, HE.out]) ((HT.out wq).mono ?_)
        rintro e wa ⟨rfl, hb5⟩
        exact ⟨_, rfl, by rw [HTB.out], hI.1.out.keep hb5, keep hb5 hI.2.1.out, hI.2.2.out.trans (hb5.mono hI.2.2.out.size)⟩
      · exact Gives.value (v := .bool true) (w' := wq) (by simp [go_sem]) ⟨rfl, hI⟩
      · exact Gives.value (v := .bool true) (w' := wq) (by kernel_rfl) ⟨rfl, hI⟩
    · intro wq hI
      have HB := hI.2.2
      clear hI
      go_wp2_with fail
      go_ret
      exact ⟨ret_bool HQ.out.symm, HB.out⟩
end Go.Proofs.YthpioplpfmlgcaaGreatDoor.At
