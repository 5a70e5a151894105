/- The reference's fits and All. -/
import Derived.Test.YtmhddlhlniajpaaAL
namespace Go.Proofs.Ytmhddlhlniajpaa
open Go.RowKit
set_option maxHeartbeats 800000 in
theorem fits_any (A T : Option Addr) (cap cT : Nat) (rs : List Rul) (ts : List ByteArray) (w : World) (hR : RulsAt w A rs) (hT : ToksAt w T ts) (hn : rs.length ≤ 1000000) (hm : ts.length ≤ 1000000) : Calls Try.prog 32 #[.slice A rs.length cap, .slice T ts.length cT] w fun e w' => e = .returned (.bool (validB rs && toksB ts)) ∧ Below w.heap.size w w' := by
  have HR := Lib.hid hR
  have HT := Lib.hid hT
  clear hR hT
  go_enter Try.func32, Try.ntmps32
  go_wp2_with fail
  refine (rvalid_any A cap rs _ HR.out hn).mono ?_
  rintro e w1 ⟨rfl, hb⟩
  have HB := Lib.hid hb
  have HT := Lib.hid (HT.out.keep hb)
  clear hb
  cases q : validB rs
  · have HQ := Lib.hid (show (validB rs && toksB ts) = false by rw [q]; rfl)
    clear q
    go_wp2_with fail
    go_ret
    exact ⟨by rw [HQ.out]; rfl, HB.out⟩
  · have HQ := Lib.hid (show (validB rs && toksB ts) = toksB ts by rw [q]; rfl)
    clear q
    go_wp2_with fail
    refine (rtvalid_any T cT ts _ HT.out hm).mono ?_
    rintro e w2 ⟨rfl, hb⟩
    have HB := Lib.hid (HB.out.trans (hb.mono HB.out.size))
    clear hb
    go_wp2_with fail
    go_ret
    exact ⟨by rw [HQ.out]; rfl, HB.out⟩
/-- all readings, of valid rules and tokens -/
def allL (rs : List Rul) (ts : List ByteArray) : List Rd := if validB rs && toksB ts then allR rs ts 0 ts.length else []
theorem readL_all {rs : List Rul} {ts : List ByteArray} : readL rs ts = (allL rs ts).take 2 := by
  unfold readL allL
  split <;> simp
theorem allL_len {rs : List Rul} {ts : List ByteArray} (h1 : rs.length ≤ 8) (h2 : ts.length ≤ 6) : (allL rs ts).length ≤ 1376256 := by
  unfold allL
  split
  · exact most_all h1 h2 (Nat.le_refl _)
  · simp
def AllsP (rs : List Rul) (ts : List ByteArray) (w : World) (e : Ending) (w' : World) : Prop := ∃ A cap, e = .returned (.tuple #[.slice A (allL rs ts).length cap, .int .i64 (okI rs ts)]) ∧ RdsAt (fun b => w.heap.size ≤ b) w' A (allL rs ts) ∧ Below w.heap.size w w'
set_option maxHeartbeats 800000 in
theorem rAll_any (A T : Option Addr) (cap cT : Nat) (rs : List Rul) (ts : List ByteArray) (w : World) (hR : RulsAt w A rs) (hT : ToksAt w T ts) (hn : rs.length ≤ 8) (hm : ts.length ≤ 6) : Calls Try.prog 14 #[.slice A rs.length cap, .slice T ts.length cT] w (AllsP rs ts w) := by
  have HR := Lib.hid hR
  have HT := Lib.hid hT
  clear hR hT
  go_enter Try.func14, Try.ntmps14
  go_wp2_with fail
  refine (fits_any A T cap cT rs ts _ HR.out HT.out (by omega) (by omega)).mono ?_
  rintro e w1 ⟨rfl, hb⟩
  have HB := Lib.hid hb
  have HT := Lib.hid (HT.out.keep hb)
  have HR := Lib.hid (HR.out.keep hb)
  clear hb
  cases q : (validB rs && toksB ts)
  · have HA := Lib.hid (show allL rs ts = [] by unfold allL; rw [q]; rfl)
    have HO := Lib.hid (show okI rs ts = 1 by unfold okI; rw [q]; rfl)
    clear q
    go_wp2_with fail
    go_returns
    exact ⟨none, 0, by rw [HA.out, HO.out]; rfl, by rw [HA.out]; exact RdsAt.nil _ _ _, HB.out⟩
  · have HA := Lib.hid (show allL rs ts = allR rs ts 0 ts.length by unfold allL; rw [q]; rfl)
    have HO := Lib.hid (show okI rs ts = 0 by unfold okI; rw [q]; rfl)
    have HC := Lib.hid (rall_any A T cap cT rs ts hn hm ts.length 0 ts.length w1 (by omega) (Nat.le_refl _) HR.out HT.out)
    clear q
    go_wp2_with fail
    refine HC.out.mono ?_
    rintro e w2 ⟨v, rfl, ho, hb⟩
    have HB9 := Lib.hid (HB.out.trans (hb.mono HB.out.size))
    have HSZ := Lib.hid HB.out.size
    obtain ⟨A1, c1, rfl, _, _, h3⟩ := AppR.form ho fun b h => h
    have H3 := Lib.hid h3
    clear ho hb h3
    go_wp2_with fail
    go_returns
    exact ⟨A1, c1, by rw [HA.out, HO.out]; rfl, by rw [HA.out]; exact H3.out.any fun b _ h => Nat.le_trans HSZ.out h, HB9.out⟩
end Go.Proofs.Ytmhddlhlniajpaa
