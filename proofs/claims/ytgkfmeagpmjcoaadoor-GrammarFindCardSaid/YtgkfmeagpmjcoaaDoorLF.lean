/- GrammarFind returns true: the walk of the statement. -/
import Derived.Test.YtgkfmeagpmjcoaaDoorT1
import Derived.Test.YtgkfmeagpmjcoaaDoorF0
namespace Go.Proofs.YtgkfmeagpmjcoaaDoor
open Go.RowKit
set_option maxRecDepth 100000 in
set_option maxHeartbeats 800000 in
theorem find_walk (A : Option Addr) (cap : Nat) (rs : List Rul) (kind : Int) (s : ByteArray) (w : World) (ht : Tab w) (hR : RulsAt w A rs) (hc : rs.length ≤ cap) (hcap : cap ≤ 9223372036854775807) : Calls Tryd.prog 5 #[.slice A rs.length cap, .int .i64 kind, .string s] w fun e w' => e = .returned (.bool true) ∧ Below w.heap.size w w' := by
  have HT := Lib.hid ht
  have HR := Lib.hid hR
  clear ht hR
  go_enter Tryd.func5, Tryd.ntmps5
  go_wp2_with fail
  refine (awake_any w HT.out).mono ?_
  rintro e w1 ⟨rfl, hb⟩
  have H1 := Lib.hid hb
  clear hb
  go_wp2_with fail
  refine (short_any A cap rs w1 (HR.out.keep H1.out) (by omega)).mono ?_
  rintro e w1' ⟨rfl, rfl⟩
  cases hs : shortB rs
  · clear hs
    go_wp2_with fail
    go_ret
    exact ⟨rfl, H1.out⟩
  · have hl := short_len hs
    clear hs
    by_cases h100 : 100 < s.size
    · go_wp2_with fail
      go_ret
      exact ⟨rfl, H1.out⟩
    · go_wp2_with fail
      refine (find_any A cap rs kind s w1 (HR.out.keep H1.out) (by omega)).mono ?_
      rintro e w2 ⟨rfl, hb⟩
      have H2 := Lib.hid (H1.out.trans (hb.mono H1.out.size))
      clear hb
      generalize hI : rs.findIdx? (symP kind s) = I
      have HI := Lib.hid hI
      clear hI
      go_wp2_with fail
      refine (rfind_any A cap rs kind s w2 (HR.out.keep H2.out) (by omega)).mono ?_
      rintro e w3 ⟨rfl, hb⟩
      have H3 := Lib.hid (H2.out.trans (hb.mono H2.out.size))
      clear hb
      rw [HI.out]
      go_wp2_with fail
      refine (fnamed_any A cap rs kind s w3 (HR.out.keep H3.out) (by omega)).mono ?_
      rintro e w4 ⟨rfl, hb⟩
      have H4 := Lib.hid (H3.out.trans (hb.mono H3.out.size))
      clear hb
      generalize hJ : rs.findIdx? (namP kind s) = J
      have HJ := Lib.hid hJ
      clear hJ
      go_wp2_with fail
      refine (rfnamed_any A cap rs kind s w4 (HR.out.keep H4.out) (by omega)).mono ?_
      rintro e w5 ⟨rfl, hb⟩
      have H5 := Lib.hid (H4.out.trans (hb.mono H4.out.size))
      clear hb
      rw [HJ.out]
      go_wp2_with fail
      go_ret
      exact ⟨rfl, H5.out⟩
end Go.Proofs.YtgkfmeagpmjcoaaDoor
