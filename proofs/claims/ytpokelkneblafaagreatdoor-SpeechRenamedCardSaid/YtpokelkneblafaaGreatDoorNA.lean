/- Spoken names: the program and the reference. -/
import Derived.Test.YtpokelkneblafaaGreatDoorID
import Derived.Laws.BytesArg
namespace Go.Proofs.YtpokelkneblafaaGreatDoor
open Go.RowKit
def nameS (s : ByteArray) : ByteArray := bys (nameL s.data.toList)
theorem name_none {s : ByteArray} (h : idB s.toList = false) : nameS s = ⟨#[]⟩ := by
  unfold nameS nameL
  rw [← ByteArray.toList_eq, h]
  rfl
theorem name_long {s : ByteArray} (h : idB s.toList = true) (h1 : 1 < s.size) : nameS s = ⟨#[110, 97, 109, 101, 32]⟩ ++ s := by
  unfold nameS nameL
  rw [← ByteArray.toList_eq, if_pos h, if_pos (by rw [size_toList]; exact h1), ByteArray.toList_eq]
  apply ByteArray.ext
  simp [bys, ByteArray.data_append, wName]
theorem name_up {s : ByteArray} (h : idB s.toList = true) (h1 : s.size = 1) (hp : 0 < s.size) (hu : s[0].toNat ≤ 90) : nameS s = ⟨#[99, 97, 112, 105, 116, 97, 108, 32]⟩ ++ ⟨(Lib.toLowerA s.data.toList).toArray⟩ := by
  obtain ⟨c, rfl⟩ := sym_one h1
  unfold nameS nameL
  rw [ByteArray.toList_eq] at h
  rw [if_pos h, if_neg (by simp), if_pos (show ((⟨#[c]⟩ : ByteArray).data.toList.headD 0).toNat ≤ 90 from hu)]
  apply ByteArray.ext
  simp [bys, ByteArray.data_append, wCap]
theorem name_low {s : ByteArray} (h : idB s.toList = true) (h1 : s.size = 1) (hp : 0 < s.size) (hu : ¬ s[0].toNat ≤ 90) : nameS s = s := by
  obtain ⟨c, rfl⟩ := sym_one h1
  unfold nameS nameL
  rw [ByteArray.toList_eq] at h
  rw [if_pos h, if_neg (by simp), if_neg (show ¬ ((⟨#[c]⟩ : ByteArray).data.toList.headD 0).toNat ≤ 90 from hu)]
  rfl
theorem id_first {s : ByteArray} (h : idB s.toList = true) (h1 : s.size = 1) (hp : 0 < s.size) : letB s[0] = true := by
  obtain ⟨c, rfl⟩ := sym_one h1
  rw [ByteArray.toList_eq] at h
  have h2 := (id_named h).1
  exact List.all_eq_true.1 h2 c (by simp)
theorem let_range {c : UInt8} (h : letB c = true) : 65 ≤ c.toNat ∧ c.toNat ≤ 122 := by
  unfold letB at h
  simp only [Bool.or_eq_true, Bool.and_eq_true, decide_eq_true_eq] at h
  omega
theorem lower_one0 {c : UInt8} (h : letB c = true) (h1 : c.toNat ≤ 90) : Lib.toLowerA [c] = [UInt8.ofNat (c.toNat + 32)] := by
  have hr := (let_range h).1
  have : ∀ n : Nat, n < 256 → 65 ≤ n → n ≤ 90 → Lib.toLowerA [UInt8.ofNat n] = [UInt8.ofNat (n + 32)] := by decide +kernel
  have := this c.toNat c.toNat_lt hr h1
  rwa [UInt8.ofNat_toNat] at this
theorem lower_one {s : ByteArray} (h1 : s.size = 1) (hp : 0 < s.size) (h : letB s[0] = true) (hu : s[0].toNat ≤ 90) : Lib.toLowerA s.data.toList = [UInt8.ofNat (s[0].toNat + 32)] := by
  obtain ⟨c, rfl⟩ := sym_one h1
  exact lower_one0 h hu
theorem one_ascii {s : ByteArray} (h1 : s.size = 1) (hp : 0 < s.size) (hr : s[0].toNat ≤ 122) : ∀ (j : Nat) (b : UInt8), s.data.toList[j]? = some b → b.toNat < 128 := by
  obtain ⟨c, rfl⟩ := sym_one h1
  have h122 : c.toNat ≤ 122 := hr
  intro j b hj
  have hm := List.mem_of_getElem? hj
  simp at hm
  subst hm
  omega
set_option maxHeartbeats 800000 in
theorem name_any (s : ByteArray) (w : World) (hs : s.size ≤ 9223372036854775807) : Calls Tryz.prog 45 #[.string s] w fun e w' => e = .returned (.string (nameS s)) ∧ Below w.heap.size w w' := by
  have HC := Lib.hid (fun w => ident_any s w hs)
  cases hi : idB s.toList
  · rw [name_none hi]
    rw [hi] at HC
    clear hi
    go_enter Tryz.func45, Tryz.ntmps45
    go_wp2_with fail
    refine (HC.out _).mono ?_
    rintro e w1 ⟨rfl, hb⟩
    have HB := Lib.hid hb
    clear hb
    go_wp2_with fail
    go_ret
    exact ⟨rfl, HB.out⟩
  · have h16 : s.size ≤ 16 := by have := (id_named hi).2.2; rwa [size_toList] at this
    have h1 : 1 ≤ s.size := by have := (id_named hi).2.1; rwa [size_toList] at this
    by_cases hl : 1 < s.size
    · rw [name_long hi hl]
      rw [hi] at HC
      clear hi
      go_enter Tryz.func45, Tryz.ntmps45
      go_wp2_with fail
      refine (HC.out _).mono ?_
      rintro e w1 ⟨rfl, hb⟩
      have HB := Lib.hid hb
      clear hb
      go_wp2_with fail
      go_ret
      exact ⟨rfl, HB.out⟩
    · have e1 : s.size = 1 := by omega
      have hp : 0 < s.size := by omega
      have hlet := id_first hi e1 hp
      obtain ⟨r1, r2⟩ := let_range hlet
      have g1 : 65 ≤ (s[0].toNat : Int) := by omega
      by_cases hu : s[0].toNat ≤ 90
      · rw [name_up hi e1 hp hu]
        have g2 : (s[0].toNat : Int) ≤ 90 := by omega
        have HT := Lib.hid (fun w => Tryz.strings_ToLower_ascii s w (by omega) (one_ascii e1 hp r2))
        have hz : (⟨(Lib.toLowerA s.data.toList).toArray⟩ : ByteArray).size = 1 := by rw [lower_one e1 hp hlet hu]; rfl
        rw [hi] at HC
        generalize (⟨(Lib.toLowerA s.data.toList).toArray⟩ : ByteArray) = lo at *
        clear hi hlet hu
        go_enter Tryz.func45, Tryz.ntmps45
        go_wp2_with fail
        refine (HC.out _).mono ?_
        rintro e w1 ⟨rfl, hb⟩
        have HB := Lib.hid hb
        clear hb
        go_wp2_with fail
        refine (HT.out _).mono ?_
        rintro e w2 ⟨rfl, hb⟩
        have HB := Lib.hid (HB.out.trans (hb.mono HB.out.size))
        clear hb
        go_wp2_with fail
        go_ret
        exact ⟨rfl, HB.out⟩
      · rw [name_low hi e1 hp hu]
        have g2 : ¬ (s[0].toNat : Int) ≤ 90 := by omega
        rw [hi] at HC
        clear hi hlet hu
        go_enter Tryz.func45, Tryz.ntmps45
        go_wp2_with fail
        refine (HC.out _).mono ?_
        rintro e w1 ⟨rfl, hb⟩
        have HB := Lib.hid hb
        clear hb
        go_wp2_with fail
        go_ret
        exact ⟨rfl, HB.out⟩
def low1 (n : Int) : ByteArray := bys [UInt8.ofNat n.toNat]
theorem conv_low (w : World) (n : Int) : (convert 48 9 (.slice (some ⟨w.heap.size, 0, none⟩) 1 1)).run Tryz.prog (w.alloc (.cells #[.int .u8 n] 5)) = .ok (.string (low1 n)) (w.alloc (.cells #[.int .u8 n] 5)) :=
  run_convert_bytes_arg (P := Tryz.prog) _ 48 5 Tryz.underlying48 Tryz.underlying5 w.heap.size 0 1 1 [n] rfl (fun i hi => by
    obtain rfl : i = 0 := by omega
    exact Blk.cell (Blk.new w 5 #[.int .u8 n]) 0) 9 Tryz.underlying9
set_option maxHeartbeats 800000 in
theorem rname_any (s : ByteArray) (w : World) (hs : s.size ≤ 9223372036854775807) : Calls Tryz.prog 79 #[.string s] w fun e w' => e = .returned (.string (nameS s)) ∧ Below w.heap.size w w' := by
  have HC := Lib.hid (fun w => rident_any s w hs)
  cases hi : idB s.toList
  · rw [name_none hi]
    rw [hi] at HC
    clear hi
    go_enter Tryz.func79, Tryz.ntmps79
    go_wp2_with fail
    refine (HC.out _).mono ?_
    rintro e w1 ⟨rfl, hb⟩
    have HB := Lib.hid hb
    clear hb
    go_wp2_with fail
    go_ret
    exact ⟨rfl, HB.out⟩
  · have h16 : s.size ≤ 16 := by have := (id_named hi).2.2; rwa [size_toList] at this
    have h1 : 1 ≤ s.size := by have := (id_named hi).2.1; rwa [size_toList] at this
    by_cases hl : 1 < s.size
    · rw [name_long hi hl]
      rw [hi] at HC
      clear hi
      go_enter Tryz.func79, Tryz.ntmps79
      go_wp2_with fail
      refine (HC.out _).mono ?_
      rintro e w1 ⟨rfl, hb⟩
      have HB := Lib.hid hb
      clear hb
      go_wp2_with fail
      go_ret
      exact ⟨rfl, HB.out⟩
    · have e1 : s.size = 1 := by omega
      have hp : 0 < s.size := by omega
      have hlet := id_first hi e1 hp
      obtain ⟨r1, r2⟩ := let_range hlet
      by_cases hu : s[0].toNat ≤ 90
      · have hlo : (⟨(Lib.toLowerA s.data.toList).toArray⟩ : ByteArray) = low1 ((s[0].toNat : Int) - 65 + 97) := by
          rw [lower_one e1 hp hlet hu]
          unfold low1
          rw [show ((s[0].toNat : Int) - 65 + 97).toNat = s[0].toNat + 32 by omega]
          rfl
        rw [name_up hi e1 hp hu, hlo]
        have g2 : (s[0].toNat : Int) ≤ 90 := by omega
        have hz : (low1 ((s[0].toNat : Int) - 65 + 97)).size = 1 := rfl
        have w1 : IntKind.u8.wrap ((s[0].toNat : Int) - 65) = s[0].toNat - 65 := by unfold IntKind.wrap; simp [IntKind.signed, IntKind.bits]; omega
        have w2 : IntKind.u8.wrap ((s[0].toNat : Int) - 65 + 97) = (s[0].toNat : Int) - 65 + 97 := by unfold IntKind.wrap; simp [IntKind.signed, IntKind.bits]; omega
        have HV := Lib.hid (fun w => conv_low w ((s[0].toNat : Int) - 65 + 97))
        generalize low1 ((s[0].toNat : Int) - 65 + 97) = lo at *
        rw [hi] at HC
        clear hi hlo hlet hu
        go_enter Tryz.func79, Tryz.ntmps79
        go_wp2_with fail
        refine (HC.out _).mono ?_
        rintro e wz ⟨rfl, hb⟩
        have HB := Lib.hid hb
        have hc := HV.out wz
        clear hb
        go_wp2_with fail
        go_ret
        exact ⟨rfl, HB.out.alloc (HB.out.size) _⟩
      · rw [name_low hi e1 hp hu]
        have g2 : ¬ (s[0].toNat : Int) ≤ 90 := by omega
        rw [hi] at HC
        clear hi hlet hu
        go_enter Tryz.func79, Tryz.ntmps79
        go_wp2_with fail
        refine (HC.out _).mono ?_
        rintro e w1 ⟨rfl, hb⟩
        have HB := Lib.hid hb
        clear hb
        go_wp2_with fail
        go_ret
        exact ⟨rfl, HB.out⟩
end Go.Proofs.YtpokelkneblafaaGreatDoor
