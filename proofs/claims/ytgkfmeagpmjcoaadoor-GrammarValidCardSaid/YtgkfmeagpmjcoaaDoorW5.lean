/- Line of the reference: the line of a rule that is valid alone. -/
import Derived.Test.YtgkfmeagpmjcoaaDoorW4
namespace Go.Proofs.YtgkfmeagpmjcoaaDoor
open Go.RowKit
def dB (n : Int) : ByteArray := bys (Lib.decDigits n.toNat)
theorem dB_len {n : Int} (h : 0 ≤ n ∧ n ≤ 101) : (dB n).size ≤ 21 := dig_len h.1 (by omega)
theorem ret_str {a b : ByteArray} (h : a = b) : Ending.returned (.string a) = .returned (.string b) := by rw [h]
theorem dB_it {n : Int} (h : 0 ≤ n ∧ n ≤ 101) : (dB n).data.toList = (itB n).data.toList := by
  unfold dB itB Lib.itoa
  rw [bys_data, if_neg (by omega)]
theorem eq_bys {b : ByteArray} {l : List UInt8} (h : b.data.toList = l) : bys l = b := by rw [← h, data_bys]
theorem rline1 {r : Rul} (hk : r.kind = 1) (hp : 0 ≤ r.prec ∧ r.prec ≤ 101) (hl : 0 ≤ r.left ∧ r.left ≤ 101) (hr : 0 ≤ r.right ∧ r.right ≤ 101) : bys (lineN r) = ⟨#[105, 110, 102, 105, 120, 32]⟩ ++ r.sym ++ ⟨#[32]⟩ ++ r.nam ++ (⟨#[32]⟩ ++ dB r.prec) ++ (⟨#[32]⟩ ++ dB r.left) ++ (⟨#[32]⟩ ++ dB r.right) := by
  apply eq_bys
  unfold lineN
  rw [words_kind.1 hk]
  simp [words1, Lib.join, dB_it hp, dB_it hl, dB_it hr]
theorem rline2 {r : Rul} (hk : r.kind = 2) (hp : 0 ≤ r.prec ∧ r.prec ≤ 101) (hr : 0 ≤ r.right ∧ r.right ≤ 101) : bys (lineN r) = ⟨#[112, 114, 101, 102, 105, 120, 32]⟩ ++ r.sym ++ ⟨#[32]⟩ ++ r.nam ++ (⟨#[32]⟩ ++ dB r.prec) ++ (⟨#[32]⟩ ++ dB r.right) := by
  apply eq_bys
  unfold lineN
  rw [words_kind.2.1 hk]
  simp [words2, Lib.join, dB_it hp, dB_it hr]
theorem rline3 {r : Rul} (hk : r.kind = 3) (hp : 0 ≤ r.prec ∧ r.prec ≤ 101) (hl : 0 ≤ r.left ∧ r.left ≤ 101) : bys (lineN r) = ⟨#[112, 111, 115, 116, 102, 105, 120, 32]⟩ ++ r.sym ++ ⟨#[32]⟩ ++ r.nam ++ (⟨#[32]⟩ ++ dB r.prec) ++ (⟨#[32]⟩ ++ dB r.left) := by
  apply eq_bys
  unfold lineN
  rw [words_kind.2.2.1 hk]
  simp [words3, Lib.join, dB_it hp, dB_it hl]
theorem rline4 {r : Rul} (hk : r.kind = 4) (hp : 0 ≤ r.prec ∧ r.prec ≤ 101) (hl : 0 ≤ r.left ∧ r.left ≤ 101) (hr : 0 ≤ r.right ∧ r.right ≤ 101) : bys (lineN r) = ⟨#[106, 117, 120, 116, 97, 112, 111, 115, 101, 32]⟩ ++ r.nam ++ (⟨#[32]⟩ ++ dB r.prec) ++ (⟨#[32]⟩ ++ dB r.left) ++ (⟨#[32]⟩ ++ dB r.right) := by
  apply eq_bys
  unfold lineN
  rw [words_kind.2.2.2 hk]
  simp [words4, Lib.join, dB_it hp, dB_it hl, dB_it hr]
set_option maxRecDepth 100000 in
set_option maxHeartbeats 1000000 in
theorem rline_any (r : Rul) (w : World) (hr : ownB r = true) : Calls Tryd.prog 36 #[r.v] w fun e w' => e = .returned (.string (bys (lineN r))) ∧ Below w.heap.size w w' := by
  have ho := ownR_of hr
  have hprec := ho.prec
  have hleft := ho.left
  have hright := ho.right
  have HOWN := Lib.hid hr
  have HO := Lib.hid ho
  clear ho hr
  go_enter Tryd.func36, Tryd.ntmps36
  go_upto_region 1 with (fail)
  have K0 := Lib.hid (Blk.new w 39 r.c)
  have H0 := Lib.hid (bel_alloc w (.cells r.c 39))
  refine region_list (by kernel_rfl) _ [.pointer (some ⟨w.heap.size, 3, none⟩), .int .i64 r.prec, .string (dB r.prec), .string (⟨#[32]⟩ ++ dB r.prec), .pointer (some ⟨w.heap.size, 4, none⟩), .int .i64 r.left, .string (dB r.left), .string (⟨#[32]⟩ ++ dB r.left), .pointer (some ⟨w.heap.size, 5, none⟩), .int .i64 r.right, .string (dB r.right), .string (⟨#[32]⟩ ++ dB r.right), .string (⟨#[32]⟩ ++ dB r.prec), .string (⟨#[32]⟩ ++ dB r.left), .string (⟨#[32]⟩ ++ dB r.right)] [true, true, true, true, true, true, true, true, true, true, true, true, true, true, true] (fun wq => Hid (Blk wq w.heap.size 39 r.c) ∧ Hid (Below w.heap.size w wq)) (by kernel_rfl) (by simp [fin, finOn, dstAt, List.range, List.range.loop, Act.put]; rfl) (by kernel_rfl) ⟨K0.out.drew, below_drew H0.out⟩ ?_ ?_
  · refine ⟨fun wq hI => ?_, fun wq hI => ?_, fun wq hI => ?_, fun wq hI => ?_, fun wq hI => ?_, fun wq hI => ?_, fun wq hI => ?_, fun wq hI => ?_, fun wq hI => ?_, fun wq hI => ?_, fun wq hI => ?_, fun wq hI => ?_, fun wq hI => ?_, fun wq hI => ?_, fun wq hI => ?_, trivial⟩
    · exact Gives.value (v := .pointer (some ⟨w.heap.size, 3, none⟩)) (w' := wq) (by simp [execOp, Act.eval, go_sem]) ⟨rfl, hI⟩
    · have cJ := hI.1.out.cell 3
      exact Gives.value (v := .int .i64 r.prec) (w' := wq) (by simp [execOp, Act.eval, go_sem, cJ]) ⟨rfl, hI⟩
    · refine Gives.call (f := 57) (args := #[.int .i64 r.prec]) (w' := wq) (by kernel_rfl) ((dec_any r.prec wq (by omega) (by omega)).mono ?_)
      rintro e wa ⟨rfl, hb5⟩
      exact ⟨_, rfl, rfl, keep hb5 hI.1.out, hI.2.out.trans (hb5.mono hI.2.out.size)⟩
    · have sJ := dB_len hprec
      exact Gives.value (v := .string (⟨#[32]⟩ ++ dB r.prec)) (w' := wq) (by simp [execOp, Act.eval, go_sem]; omega) ⟨rfl, hI⟩
    · exact Gives.value (v := .pointer (some ⟨w.heap.size, 4, none⟩)) (w' := wq) (by simp [execOp, Act.eval, go_sem]) ⟨rfl, hI⟩
    · have cJ := hI.1.out.cell 4
      exact Gives.value (v := .int .i64 r.left) (w' := wq) (by simp [execOp, Act.eval, go_sem, cJ]) ⟨rfl, hI⟩
    · refine Gives.call (f := 57) (args := #[.int .i64 r.left]) (w' := wq) (by kernel_rfl) ((dec_any r.left wq (by omega) (by omega)).mono ?_)
      rintro e wa ⟨rfl, hb5⟩
      exact ⟨_, rfl, rfl, keep hb5 hI.1.out, hI.2.out.trans (hb5.mono hI.2.out.size)⟩
    · have sJ := dB_len hleft
      exact Gives.value (v := .string (⟨#[32]⟩ ++ dB r.left)) (w' := wq) (by simp [execOp, Act.eval, go_sem]; omega) ⟨rfl, hI⟩
    · exact Gives.value (v := .pointer (some ⟨w.heap.size, 5, none⟩)) (w' := wq) (by simp [execOp, Act.eval, go_sem]) ⟨rfl, hI⟩
    · have cJ := hI.1.out.cell 5
      exact Gives.value (v := .int .i64 r.right) (w' := wq) (by simp [execOp, Act.eval, go_sem, cJ]) ⟨rfl, hI⟩
    · refine Gives.call (f := 57) (args := #[.int .i64 r.right]) (w' := wq) (by kernel_rfl) ((dec_any r.right wq (by omega) (by omega)).mono ?_)
      rintro e wa ⟨rfl, hb5⟩
      exact ⟨_, rfl, rfl, keep hb5 hI.1.out, hI.2.out.trans (hb5.mono hI.2.out.size)⟩
    · have sJ := dB_len hright
      exact Gives.value (v := .string (⟨#[32]⟩ ++ dB r.right)) (w' := wq) (by simp [execOp, Act.eval, go_sem]; omega) ⟨rfl, hI⟩
    · exact Gives.value (v := .string (⟨#[32]⟩ ++ dB r.prec)) (w' := wq) (by kernel_rfl) ⟨rfl, hI⟩
    · exact Gives.value (v := .string (⟨#[32]⟩ ++ dB r.left)) (w' := wq) (by kernel_rfl) ⟨rfl, hI⟩
    · exact Gives.value (v := .string (⟨#[32]⟩ ++ dB r.right)) (w' := wq) (by kernel_rfl) ⟨rfl, hI⟩
  · intro wq hI
    obtain ⟨K0, H0⟩ := hI
    have sp := dB_len hprec
    have sl := dB_len hleft
    have sr := dB_len hright
    have ssym : r.sym.size ≤ 16 := by have := HO.out.sym; simpa using this
    have snam : r.nam.size ≤ 16 := by have := HO.out.nam; simpa using this
    have c := fun i => K0.out.cell i
    have l0 := K0.out.lt
    rcases HO.out.kind with hk | hk | hk | hk
    · have h1 : (r.kind == 1) = true := by rw [hk]; rfl
      have HK := Lib.hid hk
      clear hk
      go_wp2_with fail
      go_ret
      exact ⟨ret_str (rline1 HK.out hprec hleft hright).symm, H0.out⟩
    · have h1 : (r.kind == 1) = false := by rw [hk]; rfl
      have h2 : (r.kind == 2) = true := by rw [hk]; rfl
      have HK := Lib.hid hk
      clear hk
      go_wp2_with fail
      go_ret
      exact ⟨ret_str (rline2 HK.out hprec hright).symm, H0.out⟩
    · have h1 : (r.kind == 1) = false := by rw [hk]; rfl
      have h2 : (r.kind == 2) = false := by rw [hk]; rfl
      have h3 : (r.kind == 3) = true := by rw [hk]; rfl
      have HK := Lib.hid hk
      clear hk
      go_wp2_with fail
      go_ret
      exact ⟨ret_str (rline3 HK.out hprec hleft).symm, H0.out⟩
    · have h1 : (r.kind == 1) = false := by rw [hk]; rfl
      have h2 : (r.kind == 2) = false := by rw [hk]; rfl
      have h3 : (r.kind == 3) = false := by rw [hk]; rfl
      have HK := Lib.hid hk
      clear hk
      go_wp2_with fail
      go_ret
      exact ⟨ret_str (rline4 HK.out hprec hleft hright).symm, H0.out⟩
end Go.Proofs.YtgkfmeagpmjcoaaDoor
