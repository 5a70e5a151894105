/- Text of the program: the lines of valid rules, one behind the other. -/
import Derived.Test.YtgkfmeagpmjcoaaDoorL5
namespace Go.Proofs.YtgkfmeagpmjcoaaDoor
open Go.RowKit
theorem builderAt_below {T e : TypeId} {B b : Nat} {p : Value} {bs : List Value} {w w' : World} (h : Lib.BuilderAt T e B b p bs w) (hb : Below w.heap.size w w') : Lib.BuilderAt T e B b p bs w' := by
  have hlt := h.lt
  obtain ⟨hB, v, hk, hown, hne⟩ := h
  exact ⟨hB, v, (hb.block b hlt).trans hk, own_below hown hb, hne⟩
theorem builder_below {T e : TypeId} {B b : Nat} {bs : List Value} {w w' : World} (h : Lib.IsBuilder T e B b bs w) (hb : Below w.heap.size w w') : Lib.IsBuilder T e B b bs w' :=
  h.imp (builderAt_below · hb) (builderAt_below · hb)
theorem builder_lt {T e : TypeId} {B b : Nat} {bs : List Value} {w : World} (h : Lib.IsBuilder T e B b bs w) : B ≤ b ∧ b < w.heap.size := by
  rcases h with h | h
  · exact ⟨h.1, h.lt⟩
  · exact ⟨h.1, h.lt⟩
/-- the lines of rules -/
def textOf (rs : List Rul) : List UInt8 := (rs.map lineR).flatten
/-- the text of rules: none if they are not valid -/
def textV (rs : List Rul) : List UInt8 := if validB rs then textOf rs else []
theorem firsts_own {rs : List Rul} : ∀ {n k : Nat} {r : Rul}, firstsB rs n = true → k < n → rs[k]? = some r → ownB r = true ∧ freshB (rs.take k) r = true
  | n + 1, k, r, h, hk, hr => by
    rw [firstsB, Bool.and_eq_true] at h
    by_cases e : k = n
    · subst e
      rw [hr] at h
      simpa using h.2
    · exact firsts_own h.1 (by omega) hr
theorem valid_len {rs : List Rul} (h : validB rs = true) : rs.length ≤ 64 := by
  unfold validB at h
  simp at h
  exact h.1
theorem valid_own {rs : List Rul} (h : validB rs = true) {k : Nat} {r : Rul} (hr : rs[k]? = some r) : ownB r = true := by
  unfold validB at h
  rw [Bool.and_eq_true] at h
  exact (firsts_own h.2 (List.getElem?_eq_some_iff.1 hr).1 hr).1
theorem valid_fresh {rs : List Rul} (h : validB rs = true) {k : Nat} {r : Rul} (hr : rs[k]? = some r) : freshB (rs.take k) r = true := by
  unfold validB at h
  rw [Bool.and_eq_true] at h
  exact (firsts_own h.2 (List.getElem?_eq_some_iff.1 hr).1 hr).2
theorem textOf_snoc {rs : List Rul} {k : Nat} {r : Rul} (hr : rs[k]? = some r) : textOf (rs.take (k + 1)) = textOf (rs.take k) ++ lineR r := by
  unfold textOf
  rw [List.take_add_one, hr]
  simp
theorem textOf_len : ∀ (rs : List Rul), (∀ r ∈ rs, ownB r = true) → (textOf rs).length ≤ 120 * rs.length
  | [], _ => by simp [textOf]
  | r :: rs, h => by
    have h1 := textOf_len rs fun x hx => h x (List.mem_cons_of_mem _ hx)
    have h2 := line_len (ownR_of (h r List.mem_cons_self))
    simp [textOf] at h1 h2 ⊢
    omega
theorem byteCells_append (l m : List UInt8) : Lib.byteCells l ++ Lib.strCells ⟨m.toArray⟩ = Lib.byteCells (l ++ m) := by
  simp [Lib.byteCells, Lib.strCells]
theorem write_any (B b : Nat) (l m : List UInt8) (w : World) (h : Lib.IsBuilder 45 5 B b (Lib.byteCells l) w) (hlen : l.length + m.length ≤ 140737488355328) (hBw : B ≤ w.heap.size) :
    Calls Tryd.prog 28 #[.pointer (some ⟨b, 0, none⟩), .string ⟨m.toArray⟩] w fun e w' => e = .returned (.tuple #[.int .i64 m.length, .nilIface]) ∧ Lib.IsBuilder 45 5 B b (Lib.byteCells (l ++ m)) w' ∧ Below B w w' := by
  refine (Any.Builder_WriteString (ρ := Tryd.lays156_ren) Tryd.lays166 ⟨⟨by kernel_rfl, by kernel_rfl⟩, Tryd.underlying5, Tryd.isAgg5, Tryd.sizeOf5, Tryd.zeroValue5, by kernel_rfl, by kernel_rfl, by kernel_rfl, by decide⟩ B b (Lib.byteCells l) ⟨m.toArray⟩ w h (by simpa [Lib.byteCells, ByteArray.size] using hlen) hBw).mono ?_
  rintro e w' ⟨rfl, h1, h2⟩
  refine ⟨by simp [ByteArray.size], .inr ?_, h2⟩
  rw [← byteCells_append]
  exact h1
set_option maxRecDepth 100000 in
set_option maxHeartbeats 1000000 in
theorem text_any (A : Option Addr) (cap : Nat) (rs : List Rul) (w : World) (ht : Tab w) (hR : RulsAt w A rs) (hc : rs.length ≤ cap) (hcap : cap ≤ 9223372036854775807) : Calls Tryd.prog 12 #[.slice A rs.length cap] w fun e w' => e = .returned (.string ⟨(textV rs).toArray⟩) ∧ Below w.heap.size w w' := by
  have HR := Lib.hid hR
  have HT := Lib.hid ht
  clear hR ht
  cases hv : validB rs
  · have HTV := Lib.hid (show textV rs = [] by unfold textV; rw [hv]; rfl)
    have HV := Lib.hid hv
    clear hv
    rw [HTV.out]
    go_enter Tryd.func12, Tryd.ntmps12
    go_wp2_with fail
    refine (valid_any A cap rs w HR.out hc hcap).mono ?_
    rintro e w1 ⟨rfl, hb⟩
    rw [HV.out]
    have HB := Lib.hid hb
    clear hb
    go_wp2_with fail
    go_ret
    exact ⟨rfl, HB.out⟩
  · have HTV := Lib.hid (show textV rs = textOf rs by unfold textV; rw [hv]; rfl)
    have HV := Lib.hid hv
    have hl64 := valid_len hv
    clear hv
    rw [HTV.out]
    go_enter Tryd.func12, Tryd.ntmps12
    go_wp2_with fail
    refine (valid_any A cap rs w HR.out hc hcap).mono ?_
    rintro e w1 ⟨rfl, hb⟩
    rw [HV.out]
    have HB := Lib.hid hb
    clear hb
    go_wp2_with fail
    go_loopw [11] (fun i wr => ∃ k : Nat, k ≤ rs.length ∧ i = .int .i64 k ∧ Hid (Lib.IsBuilder 45 5 w1.heap.size w1.heap.size (Lib.byteCells (textOf (rs.take k))) wr) ∧ Hid (Below w.heap.size w wr)) (fun i _ => rs.length - (intOf i).toNat)
    case atStart => exact ⟨0, by omega, rfl, Lib.fresh_isBuilder 45 5 w1, HB.out.alloc HB.out.size _⟩
    case round =>
      obtain ⟨k, hk, rfl, HI, H0⟩ := hrel
      have hbl := builder_lt HI.out
      by_cases hlt : k < rs.length
      · obtain ⟨x, hx⟩ : ∃ x, rs[k]? = some x := ⟨_, List.getElem?_eq_getElem hlt⟩
        obtain ⟨hf, ad, rfl, hadl, c0, c1, c2, c3, c4, c5⟩ := (HR.out.keep H0.out).at_ hx
        have HO := Lib.hid (valid_own HV.out hx)
        have HS := Lib.hid (textOf_snoc hx)
        have HN : Hid ((textOf (rs.take k)).length + (lineR x).length ≤ 140737488355328) := by
          have h1 := textOf_len (rs.take k) (fun r hr => by
            obtain ⟨j, hj⟩ := List.mem_iff_getElem?.1 hr
            rw [List.getElem?_take] at hj
            split at hj
            · exact valid_own HV.out hj
            · cases hj)
          have h2 := line_len (ownR_of HO.out)
          have h3 : (rs.take k).length ≤ k := List.length_take_le _ _
          show _ ≤ _
          omega
        clear hx hf
        go_wp2_with fail
        have K0 := Lib.hid (Blk.new wr 39 x.c)
        have NI := Lib.hid (builder_below HI.out (bel_alloc wr (.cells x.c 39)))
        have NB := Lib.hid (H0.out.alloc H0.out.size (.cells x.c 39))
        refine (line_any x _ (HT.out.keep NB.out) HO.out).mono ?_
        rintro e w2 ⟨rfl, hb2⟩
        have MI := Lib.hid (builder_below NI.out hb2)
        have MB := Lib.hid (NB.out.trans (hb2.mono NB.out.size))
        clear hb2 K0 NI NB c0 c1 c2 c3 c4 c5
        have hbl2 := builder_lt MI.out
        go_wp2_with fail
        refine (write_any w1.heap.size w1.heap.size (textOf (rs.take k)) (lineR x) _ MI.out HN.out (by omega)).mono ?_
        rintro e w3 ⟨rfl, hI3, hb3⟩
        rw [← HS.out] at hI3
        have PI := Lib.hid hI3
        have PB := Lib.hid (MB.out.trans (hb3.mono HB.out.size))
        clear hI3 hb3
        go_wp2_with fail
        go_roundw
        case rel => exact ⟨k + 1, by omega, by go_num, PI, PB⟩
        case measure => simp [intOf]; omega
      · obtain rfl : k = rs.length := by omega
        have HI2 := Lib.hid (show Lib.IsBuilder 45 5 w1.heap.size w1.heap.size (Lib.byteCells (textOf rs)) wr by have := HI.out; rwa [List.take_length] at this)
        clear HI
        go_wp2_with fail
        refine (Tryd.Builder_String_any w1.heap.size w1.heap.size (textOf rs) wr HI2.out (by omega)).mono ?_
        rintro e w2 ⟨rfl, hb2⟩
        have PB := Lib.hid (H0.out.trans (hb2.mono HB.out.size))
        clear hb2
        go_wp2_with fail
        go_ret
        exact ⟨rfl, PB.out⟩
end Go.Proofs.YtgkfmeagpmjcoaaDoor
