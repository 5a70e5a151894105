/- Lists of names of the reference: less, with, without, union. -/
import Derived.Test.YtpokelkneblafaaGreatDoorFL
import Derived.BigQuiet
namespace Go.Proofs.YtpokelkneblafaaGreatDoor
open Go.RowKit
theorem quiet_n {P : Program} {f : FuncId} {args : Array Value} {w : World} {n : Nat} {v : Value} (h : Calls P f args (w.drewN n) fun e w' => e = .returned v ∧ w.drewN n = w') : Calls P f args (w.drewN n) fun e w'' => e = .returned v ∧ ∃ m, w'' = w.drewN m := h.mono fun _ _ ⟨h1, h2⟩ => ⟨h1, n, h2.symm⟩
/-- a truth value that is not told -/
def AnyB (e : Ending) : Prop := ∃ b : Bool, e = .returned (.bool b)
/-- the place of a letter -/
def placI (c : UInt8) : Int := if 97 ≤ c.toNat ∧ c.toNat ≤ 122 then (c.toNat : Int) - 97 else if 65 ≤ c.toNat ∧ c.toNat ≤ 90 then 26 + ((c.toNat : Int) - 65) else -1
set_option maxHeartbeats 400000 in
theorem rlet_any (c : UInt8) (w : World) : Calls Tryz.prog 70 #[.int .u8 (c.toNat : Int)] w fun e w' => e = .returned (.int .i64 (placI c)) ∧ w = w' := by
  have hc := c.toNat_lt
  by_cases h1 : 97 ≤ c.toNat
  · by_cases h2 : c.toNat ≤ 122
    · have HR := Lib.hid (show placI c = (c.toNat : Int) - 97 by unfold placI; rw [if_pos ⟨h1, h2⟩])
      go_enter Tryz.func70, Tryz.ntmps70
      go_wp2_with fail
      go_ret
      exact ⟨ret_int (by rw [HR.out]), rfl⟩
    · have HR := Lib.hid (show placI c = -1 by unfold placI; rw [if_neg (fun h => h2 h.2), if_neg (fun h => h2 (by omega))])
      go_enter Tryz.func70, Tryz.ntmps70
      go_wp2_with fail
      go_ret
      exact ⟨ret_int (by rw [HR.out]), rfl⟩
  · by_cases h3 : 65 ≤ c.toNat
    · by_cases h4 : c.toNat ≤ 90
      · have HR := Lib.hid (show placI c = 26 + ((c.toNat : Int) - 65) by unfold placI; rw [if_neg (fun h => h1 h.1), if_pos ⟨h3, h4⟩])
        go_enter Tryz.func70, Tryz.ntmps70
        go_wp2_with fail
        go_ret
        exact ⟨ret_int (by rw [HR.out]), rfl⟩
      · have HR := Lib.hid (show placI c = -1 by unfold placI; rw [if_neg (fun h => h1 h.1), if_neg (fun h => h4 h.2)])
        go_enter Tryz.func70, Tryz.ntmps70
        go_wp2_with fail
        go_ret
        exact ⟨ret_int (by rw [HR.out]), rfl⟩
    · have HR := Lib.hid (show placI c = -1 by unfold placI; rw [if_neg (fun h => h1 h.1), if_neg (fun h => h3 h.1)])
      go_enter Tryz.func70, Tryz.ntmps70
      go_wp2_with fail
      go_ret
      exact ⟨ret_int (by rw [HR.out]), rfl⟩
set_option maxHeartbeats 1600000 in
theorem less_any (a b : ByteArray) (w : World) (ha : a.size ≤ 9223372036854775807) : Calls Tryz.prog 52 #[.string a, .string b] w fun e w' => AnyB e ∧ Below w.heap.size w w' := by
  go_enter Tryz.func52, Tryz.ntmps52
  by_cases hs : a.size = b.size
  · have q : ((a.size : Int) != (b.size : Int)) = false := by rw [bne_eq_false_iff_eq]; omega
    have HSZ := Lib.hid hs
    clear hs
    go_wp2_with fail
    go_loopw [5] (fun i wr => ∃ k : Nat, k ≤ a.size ∧ i = .int .i64 k ∧ Hid (Below w.heap.size w wr)) (fun i _ => a.size - (intOf i).toNat)
    case atStart => exact ⟨0, by omega, rfl, Lib.hid (Below.refl _ _)⟩
    case round =>
      obtain ⟨k, hk, rfl, HB⟩ := hrel
      by_cases hlt : k < a.size
      · have hlt2 : k < b.size := by have := HSZ.out; omega
        cases hq : ((a[k].toNat : Int) != (b[k].toNat : Int))
        · go_wp2_with fail
          go_quiet (fail)
          have HB := Lib.hid (below_drewN HB.out nq)
          generalize wr.drewN nq = w1 at *
          go_wp2_with fail
          go_roundw
          case rel => exact ⟨k + 1, by omega, by go_num, HB⟩
          case measure => simp [intOf]; omega
        · go_wp2_with fail
          go_quiet (fail)
          have HB := Lib.hid (below_drewN HB.out nq)
          generalize wr.drewN nq = w1 at *
          go_wp2_with fail
          go_quiet ((go_at_call 70; exact quiet_n (rlet_any _ _)))
          have HB := Lib.hid (below_drewN HB.out nq)
          generalize w1.drewN nq = w2 at *
          go_wp2_with fail
          go_ret
          exact ⟨⟨_, rfl⟩, HB.out⟩
      · go_wp2_with fail
        go_ret
        exact ⟨⟨_, rfl⟩, HB.out⟩
  · have q : ((a.size : Int) != (b.size : Int)) = true := by rw [bne_iff_ne]; omega
    go_wp2_with fail
    go_ret
    exact ⟨⟨_, rfl⟩, Below.refl _ _⟩
/-- a list of names that the call is making -/
structure NSt (w0 w : World) (v : Value) (zs : List Nm) : Prop where
  bel : Below w0.heap.size w0 w
  own : OwnS w w0.heap.size v zs
theorem NSt.next {w0 w w' : World} {v : Value} {zs : List Nm} (h : NSt w0 w v zs) (hb : Below w.heap.size w w') : NSt w0 w' v zs := ⟨h.bel.trans (hb.mono h.bel.size), h.own.keep hb⟩
/-- behind a call that gives a list of names of which the members and a bound of the length are told -/
def NmP (w : World) (n : Nat) (M : Nm → Prop) (e : Ending) (w' : World) : Prop := ∃ v zs, e = .returned v ∧ NmL w' v zs ∧ zs.length ≤ n ∧ (∀ z, z ∈ zs ↔ M z) ∧ Below w.heap.size w w'
theorem mem_take {ts : List Nm} {k : Nat} {x z : Nm} (h : ts[k]? = some x) : z ∈ ts.take (k + 1) ↔ z ∈ ts.take k ∨ z = x := by
  rw [List.take_add_one, h, Option.toList, List.mem_append, List.mem_singleton]
def WithM (ts : List Nm) (k : Nat) (b : Bool) (s : Nm) (zs : List Nm) : Prop := (∀ z, z ∈ zs ↔ z ∈ ts.take k ∨ (b = true ∧ z = s)) ∧ zs.length = k + (if b = true then 1 else 0)
theorem WithM.start (ts : List Nm) (s : Nm) : WithM ts 0 false s [] := ⟨fun z => by simp, rfl⟩
theorem WithM.put {ts : List Nm} {k : Nat} {s : Nm} {zs : List Nm} (h : WithM ts k false s zs) : WithM ts k true s (zs ++ [s]) :=
  ⟨fun z => by rw [List.mem_append, List.mem_singleton, h.1 z]; simp, by rw [List.length_append, h.2]; rfl⟩
theorem WithM.step {ts : List Nm} {k : Nat} {b : Bool} {s x : Nm} {zs : List Nm} (h : WithM ts k b s zs) (hx : ts[k]? = some x) : WithM ts (k + 1) b s (zs ++ [x]) :=
  ⟨fun z => by
    rw [List.mem_append, List.mem_singleton, h.1 z, mem_take hx]
    constructor
    · rintro ((h1 | h2) | h3)
      · exact .inl (.inl h1)
      · exact .inr h2
      · exact .inl (.inr h3)
    · rintro ((h1 | h3) | h2)
      · exact .inl (.inl h1)
      · exact .inr h3
      · exact .inl (.inr h2), by rw [List.length_append, h.2, List.length_singleton]; omega⟩
theorem WithM.len {ts : List Nm} {k : Nat} {b : Bool} {s : Nm} {zs : List Nm} (h : WithM ts k b s zs) : zs.length ≤ k + 1 := by
  rw [h.2]
  split <;> omega
set_option maxRecDepth 100000 in
set_option maxHeartbeats 1600000 in
theorem with_any (A : Option Addr) (cap : Nat) (ts : List Nm) (s : ByteArray) (w : World) (hN : NmsAt w A ts) (hc : ts.length ≤ cap) (hc2 : cap ≤ 9223372036854775807) (hn : ts.length ≤ 1000000) (hl : ∀ p ∈ ts, p.length ≤ 1000000) (hsz : s.size ≤ 9223372036854775807) : Calls Tryz.prog 28 #[.slice A ts.length cap, .string s] w (NmP w (ts.length + 1) fun z => z ∈ ts ∨ z = s.data.toList) := by
  obtain ⟨s0, hs, hy0, hy1, hy2⟩ := info_parts info_str
  have HN := Lib.hid hN
  have HC := Lib.hid (And.intro hc hc2)
  have HL := Lib.hid hl
  clear hN hl
  go_enter Tryz.func28, Tryz.ntmps28
  go_wp2_with fail
  refine (has_any A cap ts s w HN.out hn).mono ?_
  rintro e w1 ⟨rfl, hb⟩
  by_cases hm : s.data.toList ∈ ts
  · rw [decide_eq_true hm]
    have HM := Lib.hid hm
    have HB := Lib.hid hb
    clear hm hb
    go_wp2_with fail
    go_ret
    exact ⟨_, ts, rfl, ⟨A, cap, rfl, HC.out.1, HC.out.2, HN.out.keep HB.out⟩, by omega, fun z => ⟨.inl, fun h => h.elim id fun e => e ▸ HM.out⟩, HB.out⟩
  rw [decide_eq_false hm]
  have HS0 := Lib.hid (NSt.mk hb (OwnS.nil w1 w.heap.size))
  clear hb hm
  go_wp2_with fail
  go_loopw [5, 6, 7] (fun v d i wr => ∃ (k : Nat) (b : Bool) (zs : List Nm), k ≤ ts.length ∧ i = .int .i64 k ∧ d = .bool b ∧ Hid (WithM ts k b s.data.toList zs) ∧ Hid (NSt w wr v zs)) (fun _ _ i _ => ts.length - (intOf i).toNat)
  case atStart => exact ⟨0, false, [], by omega, rfl, rfl, WithM.start _ _, HS0⟩
  case round =>
    clear HS0
    obtain ⟨k, b, zs, hk, rfl, rfl, HM, HS⟩ := hrel
    have hzl : zs.length ≤ 1000001 := by have := HM.out.len; omega
    by_cases hlt : k < ts.length
    · obtain ⟨x, hx⟩ : ∃ x, ts[k]? = some x := ⟨_, List.getElem?_eq_getElem hlt⟩
      obtain ⟨ad, rfl, _, hc⟩ := (HN.out.keep HS.out.bel) k x hx
      have HX := Lib.hid hx
      clear hx
      cases b
      · go_wp2_with fail
        refine (less_any s (bys x) wr hsz).mono ?_
        rintro e w2 ⟨⟨b2, rfl⟩, hb⟩
        replace HS := Lib.hid (HS.out.next hb)
        clear hb hc
        obtain ⟨ad2, e2, _, hc⟩ := (HN.out.keep HS.out.bel) k x HX.out
        obtain rfl : ad = ad2 := Option.some.inj e2
        clear e2
        cases b2
        · have HM3 := Lib.hid (HM.out.step HX.out)
          have hba := bel_alloc w2 (.cells #[.string (bys x)] 9)
          have HS2 := Lib.hid (NSt.mk (HS.out.bel.alloc HS.out.bel.size (.cells #[.string (bys x)] 9)) (HS.out.own.keep hba))
          have HN := Lib.hid (OwnS.new w2 w.heap.size HS.out.bel.size [x] 1 rfl (by omega) #[.string (bys x)] (by rfl))
          clear hba
          go_wp2_with (at_builtin; refine wpList_append_any _ rfl (.tmp 32) (.tmp 37) 61 rfl w.heap.size 9 s0 (.string ⟨#[]⟩) 1 16 Tryz.underlying61 hs hy0 hy1 hy2 rfl (by decide) _ _ _ rfl HS2.out.own _ (some ⟨w2.heap.size, 0, none⟩) 1 1 ([x].map strV) rfl (OwnS.reads HN.out rfl) strs_one (by unfold maxLen; omega) (by omega) HS2.out.bel.size ?_); intro v' w' g2 g3 g4
          have HS3 := Lib.hid (NSt.mk (HS2.out.bel.grown g3 HS2.out.bel.size fun b hb => (HS2.out.own.lt b hb).1) (OwnS.snoc (us := [x]) rfl rfl g2))
          clear g2 g3 g4 HS2 HN
          go_wp2_with fail
          go_roundw
          case rel => exact ⟨k + 1, false, _, by omega, by go_num, rfl, HM3, HS3⟩
          case measure => simp [intOf]; omega
        · have HM2 := Lib.hid HM.out.put
          have hba := bel_alloc w2 (.cells #[.string s] 9)
          have HS2 := Lib.hid (NSt.mk (HS.out.bel.alloc HS.out.bel.size (.cells #[.string s] 9)) (HS.out.own.keep hba))
          have HN := Lib.hid (OwnS.new w2 w.heap.size HS.out.bel.size [s.data.toList] 1 rfl (by omega) #[.string s] (by simp [strV, bys_of]))
          clear hba
          go_wp2_with (at_builtin; refine wpList_append_any _ rfl (.tmp 28) (.tmp 30) 61 rfl w.heap.size 9 s0 (.string ⟨#[]⟩) 1 16 Tryz.underlying61 hs hy0 hy1 hy2 rfl (by decide) _ _ _ rfl HS2.out.own _ (some ⟨w2.heap.size, 0, none⟩) 1 1 ([s.data.toList].map strV) rfl (OwnS.reads HN.out rfl) strs_one (by unfold maxLen; omega) (by omega) HS2.out.bel.size ?_); intro v' w' g2 g3 g4
          have HS5 := Lib.hid (NSt.mk (HS2.out.bel.grown g3 HS2.out.bel.size fun b hb => (HS2.out.own.lt b hb).1) (OwnS.snoc (us := [s.data.toList]) rfl rfl g2))
          clear g2 g3 g4 HS2 HN
          have hzl2 : (zs ++ [s.data.toList]).length ≤ 1000002 := by rw [List.length_append, List.length_singleton]; omega
          have HM3 := Lib.hid (HM2.out.step HX.out)
          clear hc
          obtain ⟨ad2, e2, _, hc⟩ := (HN.out.keep HS5.out.bel) k x HX.out
          obtain rfl : ad = ad2 := Option.some.inj e2
          clear e2
          generalize zs ++ [s.data.toList] = zs2 at *
          have hba := bel_alloc w' (.cells #[.string (bys x)] 9)
          have HS2 := Lib.hid (NSt.mk (HS5.out.bel.alloc HS5.out.bel.size (.cells #[.string (bys x)] 9)) (HS5.out.own.keep hba))
          have HN := Lib.hid (OwnS.new w' w.heap.size HS5.out.bel.size [x] 1 rfl (by omega) #[.string (bys x)] (by rfl))
          clear hba
          go_wp2_with (at_builtin; refine wpList_append_any _ rfl (.tmp 32) (.tmp 37) 61 rfl w.heap.size 9 s0 (.string ⟨#[]⟩) 1 16 Tryz.underlying61 hs hy0 hy1 hy2 rfl (by decide) _ _ _ rfl HS2.out.own _ (some ⟨w'.heap.size, 0, none⟩) 1 1 ([x].map strV) rfl (OwnS.reads HN.out rfl) strs_one (by unfold maxLen; omega) (by omega) HS2.out.bel.size ?_); intro v' w' g2 g3 g4
          have HS3 := Lib.hid (NSt.mk (HS2.out.bel.grown g3 HS2.out.bel.size fun b hb => (HS2.out.own.lt b hb).1) (OwnS.snoc (us := [x]) rfl rfl g2))
          clear g2 g3 g4 HS2 HN
          go_wp2_with fail
          go_roundw
          case rel => exact ⟨k + 1, true, _, by omega, by go_num, rfl, HM3, HS3⟩
          case measure => simp [intOf]; omega
      · have HM3 := Lib.hid (HM.out.step HX.out)
        have hba := bel_alloc wr (.cells #[.string (bys x)] 9)
        have HS2 := Lib.hid (NSt.mk (HS.out.bel.alloc HS.out.bel.size (.cells #[.string (bys x)] 9)) (HS.out.own.keep hba))
        have HN := Lib.hid (OwnS.new wr w.heap.size HS.out.bel.size [x] 1 rfl (by omega) #[.string (bys x)] (by rfl))
        clear hba
        go_wp2_with (at_builtin; refine wpList_append_any _ rfl (.tmp 32) (.tmp 37) 61 rfl w.heap.size 9 s0 (.string ⟨#[]⟩) 1 16 Tryz.underlying61 hs hy0 hy1 hy2 rfl (by decide) _ _ _ rfl HS2.out.own _ (some ⟨wr.heap.size, 0, none⟩) 1 1 ([x].map strV) rfl (OwnS.reads HN.out rfl) strs_one (by unfold maxLen; omega) (by omega) HS2.out.bel.size ?_); intro v' w' g2 g3 g4
        have HS3 := Lib.hid (NSt.mk (HS2.out.bel.grown g3 HS2.out.bel.size fun b hb => (HS2.out.own.lt b hb).1) (OwnS.snoc (us := [x]) rfl rfl g2))
        clear g2 g3 g4 HS2 HN
        go_wp2_with fail
        go_roundw
        case rel => exact ⟨k + 1, true, _, by omega, by go_num, rfl, HM3, HS3⟩
        case measure => simp [intOf]; omega
    · obtain rfl : k = ts.length := by omega
      cases b
      · have HM2 := Lib.hid HM.out.put
        have hba := bel_alloc wr (.cells #[.string s] 9)
        have HS2 := Lib.hid (NSt.mk (HS.out.bel.alloc HS.out.bel.size (.cells #[.string s] 9)) (HS.out.own.keep hba))
        have HN := Lib.hid (OwnS.new wr w.heap.size HS.out.bel.size [s.data.toList] 1 rfl (by omega) #[.string s] (by simp [strV, bys_of]))
        clear hba
        go_wp2_with (at_builtin; refine wpList_append_any _ rfl (.tmp 41) (.tmp 43) 61 rfl w.heap.size 9 s0 (.string ⟨#[]⟩) 1 16 Tryz.underlying61 hs hy0 hy1 hy2 rfl (by decide) _ _ _ rfl HS2.out.own _ (some ⟨wr.heap.size, 0, none⟩) 1 1 ([s.data.toList].map strV) rfl (OwnS.reads HN.out rfl) strs_one (by unfold maxLen; omega) (by omega) HS2.out.bel.size ?_); intro v' w' g2 g3 g4
        have HS3 := Lib.hid (NSt.mk (HS2.out.bel.grown g3 HS2.out.bel.size fun b hb => (HS2.out.own.lt b hb).1) (OwnS.snoc (us := [s.data.toList]) rfl rfl g2))
        clear g2 g3 g4 HS2 HN
        go_wp2_with fail
        go_ret
        exact ⟨_, _, rfl, HS3.out.own.nml, by rw [HM2.out.2]; exact Nat.le_refl _, fun z => by rw [HM2.out.1 z, List.take_length]; simp, HS3.out.bel⟩
      · go_wp2_with fail
        go_ret
        exact ⟨_, _, rfl, HS.out.own.nml, by rw [HM.out.2]; exact Nat.le_refl _, fun z => by rw [HM.out.1 z, List.take_length]; simp, HS.out.bel⟩
set_option maxRecDepth 100000 in
set_option maxHeartbeats 1600000 in
theorem without_any (A : Option Addr) (cap : Nat) (ts : List Nm) (s : ByteArray) (w : World) (hN : NmsAt w A ts) (hn : ts.length ≤ 1000000) : Calls Tryz.prog 49 #[.slice A ts.length cap, .string s] w (NmP w ts.length fun z => z ∈ ts ∧ z ≠ s.data.toList) := by
  obtain ⟨s0, hs, hy0, hy1, hy2⟩ := info_parts info_str
  have HN := Lib.hid hN
  clear hN
  go_enter Tryz.func49, Tryz.ntmps49
  go_wp2_with fail
  go_loopw [5, 6] (fun v i wr => ∃ (k : Nat) (zs : List Nm), k ≤ ts.length ∧ i = .int .i64 k ∧ zs.length ≤ k ∧ Hid (∀ z, z ∈ zs ↔ z ∈ ts.take k ∧ z ≠ s.data.toList) ∧ Hid (NSt w wr v zs)) (fun _ i _ => ts.length - (intOf i).toNat)
  case atStart => exact ⟨0, [], by omega, rfl, Nat.le_refl _, Lib.hid (fun z => by simp), Lib.hid ⟨Below.refl _ _, OwnS.nil _ _⟩⟩
  case round =>
    obtain ⟨k, zs, hk, rfl, hzl, HM, HS⟩ := hrel
    by_cases hlt : k < ts.length
    · obtain ⟨x, hx⟩ : ∃ x, ts[k]? = some x := ⟨_, List.getElem?_eq_getElem hlt⟩
      obtain ⟨ad, rfl, _, hc⟩ := (HN.out.keep HS.out.bel) k x hx
      cases hq : ((bys x).toList == s.toList)
      · have hq2 : (!((bys x).toList == s.toList)) = true := by rw [hq]; rfl
        have hne := nm_miss hq
        have HM3 := Lib.hid (show ∀ z, z ∈ zs ++ [x] ↔ z ∈ ts.take (k + 1) ∧ z ≠ s.data.toList from fun z => by
          rw [List.mem_append, List.mem_singleton, HM.out z, mem_take hx]
          constructor
          · rintro (⟨h1, h2⟩ | rfl)
            · exact ⟨.inl h1, h2⟩
            · exact ⟨.inr rfl, hne⟩
          · rintro ⟨h1 | h1, h2⟩
            · exact .inl ⟨h1, h2⟩
            · exact .inr h1)
        clear hx hne
        have hba := bel_alloc wr (.cells #[.string (bys x)] 9)
        have HS2 := Lib.hid (NSt.mk (HS.out.bel.alloc HS.out.bel.size (.cells #[.string (bys x)] 9)) (HS.out.own.keep hba))
        have HN := Lib.hid (OwnS.new wr w.heap.size HS.out.bel.size [x] 1 rfl (by omega) #[.string (bys x)] (by rfl))
        clear hba
        go_wp2_with (at_builtin; refine wpList_append_any _ rfl (.tmp 19) (.tmp 24) 61 rfl w.heap.size 9 s0 (.string ⟨#[]⟩) 1 16 Tryz.underlying61 hs hy0 hy1 hy2 rfl (by decide) _ _ _ rfl HS2.out.own _ (some ⟨wr.heap.size, 0, none⟩) 1 1 ([x].map strV) rfl (OwnS.reads HN.out rfl) strs_one (by unfold maxLen; omega) (by omega) HS2.out.bel.size ?_); intro v' w' g2 g3 g4
        have HS3 := Lib.hid (NSt.mk (HS2.out.bel.grown g3 HS2.out.bel.size fun b hb => (HS2.out.own.lt b hb).1) (OwnS.snoc (us := [x]) rfl rfl g2))
        clear g2 g3 g4 HS2 HN
        go_wp2_with fail
        go_roundw
        case rel => exact ⟨k + 1, _, by omega, by go_num, by rw [List.length_append, List.length_singleton]; omega, HM3, HS3⟩
        case measure => simp [intOf]; omega
      · have hq2 : (!((bys x).toList == s.toList)) = false := by rw [hq]; rfl
        have he := nm_hit hq
        have HM3 := Lib.hid (show ∀ z, z ∈ zs ↔ z ∈ ts.take (k + 1) ∧ z ≠ s.data.toList from fun z => by
          rw [HM.out z, mem_take hx]
          constructor
          · rintro ⟨h1, h2⟩
            exact ⟨.inl h1, h2⟩
          · rintro ⟨h1 | h1, h2⟩
            · exact ⟨h1, h2⟩
            · exact absurd (h1.trans he) h2)
        clear hx he
        go_wp2_with fail
        go_roundw
        case rel => exact ⟨k + 1, zs, by omega, by go_num, by omega, HM3, HS⟩
        case measure => simp [intOf]; omega
    · obtain rfl : k = ts.length := by omega
      go_wp2_with fail
      go_ret
      exact ⟨_, zs, rfl, HS.out.own.nml, hzl, fun z => by rw [HM.out z, List.take_length], HS.out.bel⟩
set_option maxRecDepth 100000 in
set_option maxHeartbeats 1600000 in
theorem union_any (v1 v2 : Value) (ts us : List Nm) (w : World) (h1 : NmL w v1 ts) (h2 : NmL w v2 us) (hn : ts.length + us.length ≤ 1000000) (hl : ∀ p, p ∈ ts ∨ p ∈ us → p.length ≤ 1000000) : Calls Tryz.prog 50 #[v1, v2] w (NmP w (ts.length + us.length) fun z => z ∈ ts ∨ z ∈ us) := by
  obtain ⟨B, cb, rfl, _, _, hU⟩ := h2
  have H1 := Lib.hid h1
  have HU := Lib.hid hU
  have HL := Lib.hid hl
  clear h1 hU hl
  go_enter Tryz.func50, Tryz.ntmps50
  go_wp2_with fail
  go_loopw [0, 5] (fun v i wr => ∃ (k : Nat) (zs : List Nm), k ≤ us.length ∧ i = .int .i64 k ∧ zs.length ≤ ts.length + k ∧ Hid (∀ z, z ∈ zs ↔ z ∈ ts ∨ z ∈ us.take k) ∧ Hid (NmL wr v zs) ∧ Hid (Below w.heap.size w wr)) (fun _ i _ => us.length - (intOf i).toNat)
  case atStart => exact ⟨0, ts, by omega, rfl, Nat.le_refl _, Lib.hid (fun z => by simp), H1, Lib.hid (Below.refl _ _)⟩
  case round =>
    clear H1
    obtain ⟨k, zs, hk, rfl, hzl, HM, HS, HB⟩ := hrel
    by_cases hlt : k < us.length
    · obtain ⟨x, hx⟩ : ∃ x, us[k]? = some x := ⟨_, List.getElem?_eq_getElem hlt⟩
      obtain ⟨ad, rfl, _, hc⟩ := (HU.out.keep HB.out) k x hx
      have HM3 := Lib.hid (show ∀ z, z ∈ zs ∨ z = x ↔ z ∈ ts ∨ z ∈ us.take (k + 1) from fun z => by rw [HM.out z, mem_take hx]; exact or_assoc)
      have HX := Lib.hid (HL.out x (.inr (List.mem_of_getElem? hx)))
      have HZ := Lib.hid (show ∀ p ∈ zs, p.length ≤ 1000000 from fun p hp => HL.out p (by
        rcases (HM.out p).1 hp with h | h
        · exact .inl h
        · exact .inr (List.mem_of_mem_take h)))
      clear hx
      obtain ⟨A, ca, rfl, hca, hcb, hT⟩ := HS.out
      have HT := Lib.hid hT
      clear hT
      go_wp2_with fail
      refine (with_any A ca zs (bys x) wr HT.out hca hcb (by omega) HZ.out (by rw [show (bys x).size = x.length by simp [bys, ByteArray.size]]; have := HX.out; omega)).mono ?_
      rintro e w2 ⟨v', zs', rfl, hN, hl', hm', hb⟩
      have HN := Lib.hid hN
      have HM4 := Lib.hid (show ∀ z, z ∈ zs' ↔ z ∈ ts ∨ z ∈ us.take (k + 1) from fun z => (hm' z).trans (by show z ∈ zs ∨ z = (bys x).data.toList ↔ _; rw [bys_data]; exact HM3.out z))
      replace HB := Lib.hid (HB.out.trans (hb.mono HB.out.size))
      clear hN hm' hb hc
      go_wp2_with fail
      go_roundw
      case rel => exact ⟨k + 1, zs', by omega, by go_num, by omega, HM4, HN, HB⟩
      case measure => simp [intOf]; omega
    · obtain rfl : k = us.length := by omega
      go_wp2_with fail
      go_ret
      exact ⟨_, zs, rfl, HS.out, hzl, fun z => by rw [HM.out z, List.take_length], HB.out⟩
end Go.Proofs.YtpokelkneblafaaGreatDoor
