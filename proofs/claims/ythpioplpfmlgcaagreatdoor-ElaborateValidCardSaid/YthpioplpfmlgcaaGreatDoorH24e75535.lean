/- Lists of names of the reference: Has, less, with, union. -/
import Derived.Test.YthpioplpfmlgcaaGreatDoorHc5d26673
import Derived.Test.YthpioplpfmlgcaaGreatDoorHfc86ff91
import Derived.Test.YthpioplpfmlgcaaGreatDoorH48bf4e8a
import Derived.Test.YthpioplpfmlgcaaGreatDoorH09685d45
import Derived.BigQuiet
namespace Go.Proofs.YthpioplpfmlgcaaGreatDoor.El
open Go.Proofs.YthpioplpfmlgcaaGreatDoor.At
open Go.Proofs.YthpioplpfmlgcaaGreatDoor.Ch
open Go.Proofs.YthpioplpfmlgcaaGreatDoor.Sp
open Go.Proofs.YthpioplpfmlgcaaGreatDoor.Sy
open Go.RowKit
abbrev Nm := List UInt8
theorem info_str : (Tryz.prog.info? 9).map (fun i => (i.zero, i.size, i.bytes)) = some (some (.string ⟨#[]⟩), 1, 16) := by kernel_rfl
def strV (l : List UInt8) : Value := .string (bys l)
/-- a list of strings that this call has made -/
def OwnS (w : World) (B : Nat) (v : Value) (ts : List (List UInt8)) : Prop := w.ownsRow B 9 1 v ts.length (ts.map strV)
theorem OwnS.keep {w w' : World} {B : Nat} {v : Value} {ts : List (List UInt8)} (h : OwnS w B v ts) (hb : Below w.heap.size w w') : OwnS w' B v ts := Ch.own_below h hb
theorem OwnS.nil (w : World) (B : Nat) : OwnS w B (.slice none 0 0) [] := ⟨rfl, .inl ⟨rfl, rfl⟩⟩
theorem OwnS.new (w : World) (B : Nat) (hB : B ≤ w.heap.size) (ts : List (List UInt8)) (n : Nat) (hn : n = ts.length) (hm : n ≤ 1000000) (cs : Array Value) (hc : cs.toList = ts.map strV) : OwnS (w.alloc (.cells cs 9)) B (.slice (some ⟨w.heap.size, 0, none⟩) n n) ts := by
  subst hn
  have hs : cs.size = ts.length := by
    have := congrArg List.length hc
    simpa using this
  refine ⟨by simp, .inr ⟨w.heap.size, ts.length, cs, rfl, hB, Blk.new w _ _, Nat.le_refl _, by unfold maxLen; omega, by rw [hs, Nat.mul_one], ?_⟩⟩
  rw [hc, List.take_of_length_le (by simp)]
theorem OwnS.snoc {w : World} {B n m : Nat} {v : Value} {ts us : List (List UInt8)} (hn : ts.length = n) (hm : us.length = m) (h : w.ownsRow B 9 1 v (n + m) (ts.map strV ++ us.map strV)) : OwnS w B v (ts ++ us) := by
  unfold OwnS
  rw [List.length_append, hn, hm, List.map_append]
  exact h
theorem OwnS.form {w : World} {B : Nat} {v : Value} {ts : List (List UInt8)} (h : OwnS w B v ts) : ∃ A cap, v = .slice A ts.length cap ∧ ts.length ≤ cap ∧ cap ≤ 9223372036854775807 ∧ ∀ (j : Nat) (p : List UInt8), ts[j]? = some p → ∃ ad : Addr, A = some ad ∧ ad.block < w.heap.size ∧ w.cell? (ad.add j) = some (.string (bys p)) := by
  obtain ⟨h1, h2⟩ := h
  rcases h2 with ⟨rfl, h0⟩ | ⟨g, cap, cur, rfl, hg, hb, hn, hc, hs, ht⟩
  · obtain rfl : ts = [] := List.length_eq_zero_iff.1 h0
    exact ⟨none, 0, rfl, by simp, by omega, fun j p hj => by simp at hj⟩
  · have hb' : Blk w g 9 cur := hb
    refine ⟨_, cap, rfl, hn, by unfold maxLen at hc; omega, fun j p hj => ⟨⟨g, 0, none⟩, rfl, hb'.lt, ?_⟩⟩
    rw [show (⟨g, 0, none⟩ : Addr).add j = ⟨g, j, none⟩ by unfold Addr.add; split <;> simp_all, hb'.cell]
    have h3 : (ts.map strV)[j]? = some (.string (bys p)) := by rw [List.getElem?_map, hj]; rfl
    rw [← ht, List.getElem?_take] at h3
    split at h3
    · simpa using h3
    · cases h3
theorem OwnS.lt {w : World} {B : Nat} {v : Value} {ts : List (List UInt8)} (h : OwnS w B v ts) : ∀ b, v.ownBlock = some b → B ≤ b ∧ b < w.heap.size := fun b hb => World.ownsRow.lt h b hb
theorem OwnS.grown {w w' : World} {B : Nat} {v : Value} {ts : List (List UInt8)} {row : Option Nat} (h : OwnS w B v ts) (hg : w.grownBy w' row) (hr : ∀ b, v.ownBlock = some b → row ≠ some b) : OwnS w' B v ts := by
  refine World.ownsRow.kept h hg ?_
  cases hv : v.ownBlock with
  | none => exact .inl rfl
  | some b => exact .inr fun e => hr b hv e.symm
theorem OwnS.reads {w : World} {B : Nat} {A : Option Addr} {n cap : Nat} {ts : List (List UInt8)} (h : OwnS w B (.slice A n cap) ts) (hn : n = ts.length) : Reads w w.heap.size 1 A n (ts.map strV) := by
  subst hn
  exact Reads.of_own h
theorem strs_one {ts : List (List UInt8)} : ∀ u ∈ ts.map strV, u.oneCell' = true := by
  intro u hu
  obtain ⟨s, _, rfl⟩ := List.mem_map.1 hu
  rfl
/-- a list of names in memory -/
def NmsAt (w : World) (A : Option Addr) (ts : List Nm) : Prop := ∀ (j : Nat) (p : Nm), ts[j]? = some p → ∃ ad : Addr, A = some ad ∧ ad.block < w.heap.size ∧ w.cell? (ad.add j) = some (.string (bys p))
theorem NmsAt.keep {w w' : World} {A : Option Addr} {ts : List Nm} (h : NmsAt w A ts) (hb : Below w.heap.size w w') : NmsAt w' A ts := fun j p hj => by
  obtain ⟨ad, h1, h2, h3⟩ := h j p hj
  exact ⟨ad, h1, Nat.lt_of_lt_of_le h2 hb.size, by rw [hb.cell (by rw [Sp.add_blk]; exact h2)]; exact h3⟩
theorem NmsAt.nil (w : World) (A : Option Addr) : NmsAt w A [] := fun j p h => by simp at h
/-- a list of names as a value -/
def NmL (w : World) (v : Value) (ts : List Nm) : Prop := ∃ A cap, v = .slice A ts.length cap ∧ ts.length ≤ cap ∧ cap ≤ 9223372036854775807 ∧ NmsAt w A ts
theorem NmL.keep {w w' : World} {v : Value} {ts : List Nm} (h : NmL w v ts) (hb : Below w.heap.size w w') : NmL w' v ts := by
  obtain ⟨A, cap, h1, h2, h3, h4⟩ := h
  exact ⟨A, cap, h1, h2, h3, h4.keep hb⟩
theorem OwnS.nml {w : World} {B : Nat} {v : Value} {ts : List Nm} (h : OwnS w B v ts) : NmL w v ts := h.form
theorem bys_of (a : ByteArray) : bys a.data.toList = a := by
  apply ByteArray.ext
  simp [bys]
theorem nm_hit {p : Nm} {s : ByteArray} (h : ((bys p).toList == s.toList) = true) : p = s.data.toList := by
  rw [beq_iff_eq, ByteArray.toList_eq, ByteArray.toList_eq, bys_data] at h
  exact h
theorem nm_miss {p : Nm} {s : ByteArray} (h : ((bys p).toList == s.toList) = false) : p ≠ s.data.toList := by
  rintro rfl
  rw [bys_of] at h
  simp at h
set_option maxHeartbeats 400000 in
theorem has_any (A : Option Addr) (cap : Nat) (ts : List Nm) (s : ByteArray) (w : World) (hN : NmsAt w A ts) (hn : ts.length ≤ 1000000) : Calls Tryz.prog 71 #[.slice A ts.length cap, .string s] w fun e w' => e = .returned (.bool (decide (s.data.toList ∈ ts))) ∧ Below w.heap.size w w' := by
  have HS := Lib.hid hN
  clear hN
  go_enter Tryz.func71, Tryz.ntmps71
  go_wp2_with fail
  go_loop [5] (fun i => ∃ k : Nat, k ≤ ts.length ∧ i = .int .i64 k ∧ Hid (∀ (j : Nat) x, ts[j]? = some x → j < k → x ≠ s.data.toList)) (fun i => ts.length - (intOf i).toNat)
  case atStart => exact ⟨0, by omega, rfl, fun j _ _ h => by omega⟩
  case round =>
    obtain ⟨k, hk, rfl, HJ⟩ := hrel
    by_cases hlt : k < ts.length
    · obtain ⟨x, hx⟩ : ∃ x, ts[k]? = some x := ⟨_, List.getElem?_eq_getElem hlt⟩
      obtain ⟨ad, rfl, _, hc⟩ := HS.out k x hx
      cases hq : ((bys x).toList == s.toList)
      · have HX := Lib.hid hx
        have HQ := Lib.hid (nm_miss hq)
        clear hx
        go_wp2_with fail
        go_round
        case rel => exact ⟨k + 1, by omega, by go_num, fun j y hj h => by
          rcases Nat.lt_or_ge j k with h' | h'
          · exact HJ.out j y hj h'
          · obtain rfl : j = k := by omega
            rw [HX.out] at hj
            obtain rfl := Option.some.inj hj
            exact HQ.out⟩
        case measure => simp [intOf]; omega
      · have HR := Lib.hid (decide_eq_true (show s.data.toList ∈ ts from nm_hit hq ▸ List.mem_of_getElem? hx))
        clear hx
        go_wp2_with fail
        go_ret
        exact ⟨ret_bool HR.out.symm, Below.refl _ _⟩
    · have HR := Lib.hid (decide_eq_false (show ¬ s.data.toList ∈ ts from fun hm => by
        obtain ⟨j, hj⟩ := List.getElem?_of_mem hm
        exact HJ.out j _ hj (by have := (List.getElem?_eq_some_iff.1 hj).1; omega) rfl))
      go_wp2_with fail
      go_ret
      exact ⟨ret_bool HR.out.symm, Below.refl _ _⟩
theorem quiet_n {P : Program} {f : FuncId} {args : Array Value} {w : World} {n : Nat} {v : Value} (h : Calls P f args (w.drewN n) fun e w' => e = .returned v ∧ w.drewN n = w') : Calls P f args (w.drewN n) fun e w'' => e = .returned v ∧ ∃ m, w'' = w.drewN m := h.mono fun _ _ ⟨h1, h2⟩ => ⟨h1, n, h2.symm⟩
/-- a truth value that is not told -/
def AnyB (e : Ending) : Prop := ∃ b : Bool, e = .returned (.bool b)
/-- the place of a letter -/
def placI (c : UInt8) : Int := if 97 ≤ c.toNat ∧ c.toNat ≤ 122 then (c.toNat : Int) - 97 else if 65 ≤ c.toNat ∧ c.toNat ≤ 90 then 26 + ((c.toNat : Int) - 65) else -1
set_option maxHeartbeats 400000 in
theorem rlet_any (c : UInt8) (w : World) : Calls Tryz.prog 113 #[.int .u8 (c.toNat : Int)] w fun e w' => e = .returned (.int .i64 (placI c)) ∧ w = w' := by
  have hc := c.toNat_lt
  by_cases h1 : 97 ≤ c.toNat
  · by_cases h2 : c.toNat ≤ 122
    · have HR := Lib.hid (show placI c = (c.toNat : Int) - 97 by unfold placI; rw [if_pos ⟨h1, h2⟩])
      go_enter Tryz.func113, Tryz.ntmps113
      go_wp2_with fail
      go_ret
      exact ⟨Sp.ret_int (by rw [HR.out]), rfl⟩
    · have HR := Lib.hid (show placI c = -1 by unfold placI; rw [if_neg (fun h => h2 h.2), if_neg (fun h => h2 (by omega))])
      go_enter Tryz.func113, Tryz.ntmps113
      go_wp2_with fail
      go_ret
      exact ⟨Sp.ret_int (by rw [HR.out]), rfl⟩
  · by_cases h3 : 65 ≤ c.toNat
    · by_cases h4 : c.toNat ≤ 90
      · have HR := Lib.hid (show placI c = 26 + ((c.toNat : Int) - 65) by unfold placI; rw [if_neg (fun h => h1 h.1), if_pos ⟨h3, h4⟩])
        go_enter Tryz.func113, Tryz.ntmps113
        go_wp2_with fail
        go_ret
        exact ⟨Sp.ret_int (by rw [HR.out]), rfl⟩
      · have HR := Lib.hid (show placI c = -1 by unfold placI; rw [if_neg (fun h => h1 h.1), if_neg (fun h => h4 h.2)])
        go_enter Tryz.func113, Tryz.ntmps113
        go_wp2_with fail
        go_ret
        exact ⟨Sp.ret_int (by rw [HR.out]), rfl⟩
    · have HR := Lib.hid (show placI c = -1 by unfold placI; rw [if_neg (fun h => h1 h.1), if_neg (fun h => h3 h.1)])
      go_enter Tryz.func113, Tryz.ntmps113
      go_wp2_with fail
      go_ret
      exact ⟨Sp.ret_int (by rw [HR.out]), rfl⟩
set_option maxHeartbeats 1600000 in
theorem less_any (a b : ByteArray) (w : World) (ha : a.size ≤ 9223372036854775807) : Calls Tryz.prog 72 #[.string a, .string b] w fun e w' => AnyB e ∧ Below w.heap.size w w' := by
  go_enter Tryz.func72, Tryz.ntmps72
  by_cases hs : a.size = b.size
  · have q : ((a.size : Int) != (b.size : Int)) = false := by rw [bne_eq_false_iff_eq]; omega
    have HSZ := Lib.hid hs
    clear hs
    go_wp2_with fail
    go_loopw [5] (fun i wr => ∃ k : Nat, k ≤ a.size ∧ i = .int .i64 k ∧ Hid (Below w.heap.size w wr)) (fun i _ => a.size - (intOf i).toNat)
    case atStart => exact ⟨0, by omega, rfl, Lib.hid (Below.refl _ _)⟩
    case round =>
      obtain ⟨k, hk, rfl, HB⟩ := hrel
      by_cases hlt : k < a.size
      · have hlt2 : k < b.size := by have := HSZ.out; omega
        cases hq : ((a[k].toNat : Int) != (b[k].toNat : Int))
        · go_wp2_with fail
          go_quiet (fail)
          have HB := Lib.hid (below_drewN HB.out nq)
          generalize wr.drewN nq = w1 at *
          go_wp2_with fail
          go_roundw
          case rel => exact ⟨k + 1, by omega, by go_num, HB⟩
          case measure => simp [intOf]; omega
        · go_wp2_with fail
          go_quiet (fail)
          have HB := Lib.hid (below_drewN HB.out nq)
          generalize wr.drewN nq = w1 at *
          go_wp2_with fail
          go_quiet ((go_at_call 113; exact quiet_n (rlet_any _ _)))
          have HB := Lib.hid (below_drewN HB.out nq)
          generalize w1.drewN nq = w2 at *
          go_wp2_with fail
          go_ret
          exact ⟨⟨_, rfl⟩, HB.out⟩
      · go_wp2_with fail
        go_ret
        exact ⟨⟨_, rfl⟩, HB.out⟩
  · have q : ((a.size : Int) != (b.size : Int)) = true := by rw [bne_iff_ne]; omega
    go_wp2_with fail
    go_ret
    exact ⟨⟨_, rfl⟩, Below.refl _ _⟩
/-- a list of names that the call is making -/
structure NSt (w0 w : World) (v : Value) (zs : List Nm) : Prop where
  bel : Below w0.heap.size w0 w
  own : OwnS w w0.heap.size v zs
theorem NSt.next {w0 w w' : World} {v : Value} {zs : List Nm} (h : NSt w0 w v zs) (hb : Below w.heap.size w w') : NSt w0 w' v zs := ⟨h.bel.trans (hb.mono h.bel.size), h.own.keep hb⟩
/-- behind a call that gives a list of names of which the members and a bound of the length are told -/
def NmP (w : World) (n : Nat) (M : Nm → Prop) (e : Ending) (w' : World) : Prop := ∃ v zs, e = .returned v ∧ NmL w' v zs ∧ zs.length ≤ n ∧ (∀ z, z ∈ zs ↔ M z) ∧ Below w.heap.size w w'
theorem mem_take {ts : List Nm} {k : Nat} {x z : Nm} (h : ts[k]? = some x) : z ∈ ts.take (k + 1) ↔ z ∈ ts.take k ∨ z = x := by
  rw [List.take_add_one, h, Option.toList, List.mem_append, List.mem_singleton]
def WithM (ts : List Nm) (k : Nat) (b : Bool) (s : Nm) (zs : List Nm) : Prop := (∀ z, z ∈ zs ↔ z ∈ ts.take k ∨ (b = true ∧ z = s)) ∧ zs.length = k + (if b = true then 1 else 0)
theorem WithM.start (ts : List Nm) (s : Nm) : WithM ts 0 false s [] := ⟨fun z => by simp, rfl⟩
theorem WithM.put {ts : List Nm} {k : Nat} {s : Nm} {zs : List Nm} (h : WithM ts k false s zs) : WithM ts k true s (zs ++ [s]) :=
  ⟨fun z => by rw [List.mem_append, List.mem_singleton, h.1 z]; simp, by rw [List.length_append, h.2]; rfl⟩
theorem WithM.step {ts : List Nm} {k : Nat} {b : Bool} {s x : Nm} {zs : List Nm} (h : WithM ts k b s zs) (hx : ts[k]? = some x) : WithM ts (k + 1) b s (zs ++ [x]) :=
  ⟨fun z => by
    rw [List.mem_append, List.mem_singleton, h.1 z, mem_take hx]
    constructor
    · rintro ((h1 | h2) | h3)
      · exact .inl (.inl h1)
      · exact .inr h2
      · exact .inl (.inr h3)
    · rintro ((h1 | h3) | h2)
      · exact .inl (.inl h1)
      · exact .inr h3
      · exact .inl (.inr h2), by rw [List.length_append, h.2, List.length_singleton]; omega⟩
theorem WithM.len {ts : List Nm} {k : Nat} {b : Bool} {s : Nm} {zs : List Nm} (h : WithM ts k b s zs) : zs.length ≤ k + 1 := by
  rw [h.2]
  split <;> omega
set_option maxRecDepth 100000 in
set_option maxHeartbeats 1600000 in
theorem with_any (A : Option Addr) (cap : Nat) (ts : List Nm) (s : ByteArray) (w : World) (hN : NmsAt w A ts) (hc : ts.length ≤ cap) (hc2 : cap ≤ 9223372036854775807) (hn : ts.length ≤ 1000000) (hl : ∀ p ∈ ts, p.length ≤ 1000000) (hsz : s.size ≤ 9223372036854775807) : Calls Tryz.prog 41 #[.slice A ts.length cap, .string s] w (NmP w (ts.length + 1) fun z => z ∈ ts ∨ z = s.data.toList) := by
  obtain ⟨s0, hs, hy0, hy1, hy2⟩ := Sp.info_parts info_str
  have HN := Lib.hid hN
  have HC := Lib.hid (And.intro hc hc2)
  have HL := Lib.hid hl
  clear hN hl
  go_enter Tryz.func41, Tryz.ntmps41
  go_wp2_with fail
  refine (has_any A cap ts s w HN.out hn).mono ?_
  rintro e w1 ⟨rfl, hb⟩
  by_cases hm : s.data.toList ∈ ts
  · rw [decide_eq_true hm]
    have HM := Lib.hid hm
    have HB := Lib.hid hb
    clear hm hb
    go_wp2_with fail
    go_ret
    exact ⟨_, ts, rfl, ⟨A, cap, rfl, HC.out.1, HC.out.2, HN.out.keep HB.out⟩, by omega, fun z => ⟨.inl, fun h => h.elim id fun e => e ▸ HM.out⟩, HB.out⟩
  rw [decide_eq_false hm]
  have HS0 := Lib.hid (NSt.mk hb (OwnS.nil w1 w.heap.size))
  clear hb hm
  go_wp2_with fail
  go_loopw [5, 6, 7] (fun v d i wr => ∃ (k : Nat) (b : Bool) (zs : List Nm), k ≤ ts.length ∧ i = .int .i64 k ∧ d = .bool b ∧ Hid (WithM ts k b s.data.toList zs) ∧ Hid (NSt w wr v zs)) (fun _ _ i _ => ts.length - (intOf i).toNat)
  case atStart => exact ⟨0, false, [], by omega, rfl, rfl, WithM.start _ _, HS0⟩
  case round =>
    clear HS0
    obtain ⟨k, b, zs, hk, rfl, rfl, HM, HS⟩ := hrel
    have hzl : zs.length ≤ 1000001 := by have := HM.out.len; omega
    by_cases hlt : k < ts.length
    · obtain ⟨x, hx⟩ : ∃ x, ts[k]? = some x := ⟨_, List.getElem?_eq_getElem hlt⟩
      obtain ⟨ad, rfl, _, hc⟩ := (HN.out.keep HS.out.bel) k x hx
      have HX := Lib.hid hx
      clear hx
      cases b
      · go_wp2_with fail
        refine (less_any s (bys x) wr hsz).mono ?_
        rintro e w2 ⟨⟨b2, rfl⟩, hb⟩
        replace HS := Lib.hid (HS.out.next hb)
        clear hb hc
        obtain ⟨ad2, e2, _, hc⟩ := (HN.out.keep HS.out.bel) k x HX.out
        obtain rfl : ad = ad2 := Option.some.inj e2
        clear e2
        cases b2
        · have HM3 := Lib.hid (HM.out.step HX.out)
          have hba := bel_alloc w2 (.cells #[.string (bys x)] 9)
          have HS2 := Lib.hid (NSt.mk (HS.out.bel.alloc HS.out.bel.size (.cells #[.string (bys x)] 9)) (HS.out.own.keep hba))
          have HN := Lib.hid (OwnS.new w2 w.heap.size HS.out.bel.size [x] 1 rfl (by omega) #[.string (bys x)] (by rfl))
          clear hba
          go_wp2_with (at_builtin; refine wpList_append_any _ rfl (.tmp 32) (.tmp 37) 39 rfl w.heap.size 9 s0 (.string ⟨#[]⟩) 1 16 Tryz.underlying39 hs hy0 hy1 hy2 rfl (by decide) _ _ _ rfl HS2.out.own _ (some ⟨w2.heap.size, 0, none⟩) 1 1 ([x].map strV) rfl (OwnS.reads HN.out rfl) strs_one (by unfold maxLen; omega) (by omega) HS2.out.bel.size ?_); intro v' w' g2 g3 g4
          have HS3 := Lib.hid (NSt.mk (HS2.out.bel.grown g3 HS2.out.bel.size fun b hb => (HS2.out.own.lt b hb).1) (OwnS.snoc (us := [x]) rfl rfl g2))
          clear g2 g3 g4 HS2 HN
          go_wp2_with fail
          go_roundw
          case rel => exact ⟨k + 1, false, _, by omega, by go_num, rfl, HM3, HS3⟩
          case measure => simp [intOf]; omega
        · have HM2 := Lib.hid HM.out.put
          have hba := bel_alloc w2 (.cells #[.string s] 9)
          have HS2 := Lib.hid (NSt.mk (HS.out.bel.alloc HS.out.bel.size (.cells #[.string s] 9)) (HS.out.own.keep hba))
          have HN := Lib.hid (OwnS.new w2 w.heap.size HS.out.bel.size [s.data.toList] 1 rfl (by omega) #[.string s] (by simp [strV, bys_of]))
          clear hba
          go_wp2_with (at_builtin; refine wpList_append_any _ rfl (.tmp 28) (.tmp 30) 39 rfl w.heap.size 9 s0 (.string ⟨#[]⟩) 1 16 Tryz.underlying39 hs hy0 hy1 hy2 rfl (by decide) _ _ _ rfl HS2.out.own _ (some ⟨w2.heap.size, 0, none⟩) 1 1 ([s.data.toList].map strV) rfl (OwnS.reads HN.out rfl) strs_one (by unfold maxLen; omega) (by omega) HS2.out.bel.size ?_); intro v' w' g2 g3 g4
          have HS5 := Lib.hid (NSt.mk (HS2.out.bel.grown g3 HS2.out.bel.size fun b hb => (HS2.out.own.lt b hb).1) (OwnS.snoc (us := [s.data.toList]) rfl rfl g2))
          clear g2 g3 g4 HS2 HN
          have hzl2 : (zs ++ [s.data.toList]).length ≤ 1000002 := by rw [List.length_append, List.length_singleton]; omega
          have HM3 := Lib.hid (HM2.out.step HX.out)
          clear hc
          obtain ⟨ad2, e2, _, hc⟩ := (HN.out.keep HS5.out.bel) k x HX.out
          obtain rfl : ad = ad2 := Option.some.inj e2
          clear e2
          generalize zs ++ [s.data.toList] = zs2 at *
          have hba := bel_alloc w' (.cells #[.string (bys x)] 9)
          have HS2 := Lib.hid (NSt.mk (HS5.out.bel.alloc HS5.out.bel.size (.cells #[.string (bys x)] 9)) (HS5.out.own.keep hba))
          have HN := Lib.hid (OwnS.new w' w.heap.size HS5.out.bel.size [x] 1 rfl (by omega) #[.string (bys x)] (by rfl))
          clear hba
          go_wp2_with (at_builtin; refine wpList_append_any _ rfl (.tmp 32) (.tmp 37) 39 rfl w.heap.size 9 s0 (.string ⟨#[]⟩) 1 16 Tryz.underlying39 hs hy0 hy1 hy2 rfl (by decide) _ _ _ rfl HS2.out.own _ (some ⟨w'.heap.size, 0, none⟩) 1 1 ([x].map strV) rfl (OwnS.reads HN.out rfl) strs_one (by unfold maxLen; omega) (by omega) HS2.out.bel.size ?_); intro v' w' g2 g3 g4
          have HS3 := Lib.hid (NSt.mk (HS2.out.bel.grown g3 HS2.out.bel.size fun b hb => (HS2.out.own.lt b hb).1) (OwnS.snoc (us := [x]) rfl rfl g2))
          clear g2 g3 g4 HS2 HN
          go_wp2_with fail
          go_roundw
          case rel => exact ⟨k + 1, true, _, by omega, by go_num, rfl, HM3, HS3⟩
          case measure => simp [intOf]; omega
      · have HM3 := Lib.hid (HM.out.step HX.out)
        have hba := bel_alloc wr (.cells #[.string (bys x)] 9)
        have HS2 := Lib.hid (NSt.mk (HS.out.bel.alloc HS.out.bel.size (.cells #[.string (bys x)] 9)) (HS.out.own.keep hba))
        have HN := Lib.hid (OwnS.new wr w.heap.size HS.out.bel.size [x] 1 rfl (by omega) #[.string (bys x)] (by rfl))
        clear hba
        go_wp2_with (at_builtin; refine wpList_append_any _ rfl (.tmp 32) (.tmp 37) 39 rfl w.heap.size 9 s0 (.string ⟨#[]⟩) 1 16 Tryz.underlying39 hs hy0 hy1 hy2 rfl (by decide) _ _ _ rfl HS2.out.own _ (some ⟨wr.heap.size, 0, none⟩) 1 1 ([x].map strV) rfl (OwnS.reads HN.out rfl) strs_one (by unfold maxLen; omega) (by omega) HS2.out.bel.size ?_); intro v' w' g2 g3 g4
        have HS3 := Lib.hid (NSt.mk (HS2.out.bel.grown g3 HS2.out.bel.size fun b hb => (HS2.out.own.lt b hb).1) (OwnS.snoc (us := [x]) rfl rfl g2))
        clear g2 g3 g4 HS2 HN
        go_wp2_with fail
        go_roundw
        case rel => exact ⟨k + 1, true, _, by omega, by go_num, rfl, HM3, HS3⟩
        case measure => simp [intOf]; omega
    · obtain rfl : k = ts.length := by omega
      cases b
      · have HM2 := Lib.hid HM.out.put
        have hba := bel_alloc wr (.cells #[.string s] 9)
        have HS2 := Lib.hid (NSt.mk (HS.out.bel.alloc HS.out.bel.size (.cells #[.string s] 9)) (HS.out.own.keep hba))
        have HN := Lib.hid (OwnS.new wr w.heap.size HS.out.bel.size [s.data.toList] 1 rfl (by omega) #[.string s] (by simp [strV, bys_of]))
        clear hba
        go_wp2_with (at_builtin; refine wpList_append_any _ rfl (.tmp 41) (.tmp 43) 39 rfl w.heap.size 9 s0 (.string ⟨#[]⟩) 1 16 Tryz.underlying39 hs hy0 hy1 hy2 rfl (by decide) _ _ _ rfl HS2.out.own _ (some ⟨wr.heap.size, 0, none⟩) 1 1 ([s.data.toList].map strV) rfl (OwnS.reads HN.out rfl) strs_one (by unfold maxLen; omega) (by omega) HS2.out.bel.size ?_); intro v' w' g2 g3 g4
        have HS3 := Lib.hid (NSt.mk (HS2.out.bel.grown g3 HS2.out.bel.size fun b hb => (HS2.out.own.lt b hb).1) (OwnS.snoc (us := [s.data.toList]) rfl rfl g2))
        clear g2 g3 g4 HS2 HN
        go_wp2_with fail
        go_ret
        exact ⟨_, _, rfl, HS3.out.own.nml, by rw [HM2.out.2]; exact Nat.le_refl _, fun z => by rw [HM2.out.1 z, List.take_length]; simp, HS3.out.bel⟩
      · go_wp2_with fail
        go_ret
        exact ⟨_, _, rfl, HS.out.own.nml, by rw [HM.out.2]; exact Nat.le_refl _, fun z => by rw [HM.out.1 z, List.take_length]; simp, HS.out.bel⟩
set_option maxRecDepth 100000 in
set_option maxHeartbeats 1600000 in
theorem union_any (v1 v2 : Value) (ts us : List Nm) (w : World) (h1 : NmL w v1 ts) (h2 : NmL w v2 us) (hn : ts.length + us.length ≤ 1000000) (hl : ∀ p, p ∈ ts ∨ p ∈ us → p.length ≤ 1000000) : Calls Tryz.prog 42 #[v1, v2] w (NmP w (ts.length + us.length) fun z => z ∈ ts ∨ z ∈ us) := by
  obtain ⟨B, cb, rfl, _, _, hU⟩ := h2
  have H1 := Lib.hid h1
  have HU := Lib.hid hU
  have HL := Lib.hid hl
  clear h1 hU hl
  go_enter Tryz.func42, Tryz.ntmps42
  go_wp2_with fail
  go_loopw [0, 5] (fun v i wr => ∃ (k : Nat) (zs : List Nm), k ≤ us.length ∧ i = .int .i64 k ∧ zs.length ≤ ts.length + k ∧ Hid (∀ z, z ∈ zs ↔ z ∈ ts ∨ z ∈ us.take k) ∧ Hid (NmL wr v zs) ∧ Hid (Below w.heap.size w wr)) (fun _ i _ => us.length - (intOf i).toNat)
  case atStart => exact ⟨0, ts, by omega, rfl, Nat.le_refl _, Lib.hid (fun z => by simp), H1, Lib.hid (Below.refl _ _)⟩
  case round =>
    clear H1
    obtain ⟨k, zs, hk, rfl, hzl, HM, HS, HB⟩ := hrel
    by_cases hlt : k < us.length
    · obtain ⟨x, hx⟩ : ∃ x, us[k]? = some x := ⟨_, List.getElem?_eq_getElem hlt⟩
      obtain ⟨ad, rfl, _, hc⟩ := (HU.out.keep HB.out) k x hx
      have HM3 := Lib.hid (show ∀ z, z ∈ zs ∨ z = x ↔ z ∈ ts ∨ z ∈ us.take (k + 1) from fun z => by rw [HM.out z, mem_take hx]; exact or_assoc)
      have HX := Lib.hid (HL.out x (.inr (List.mem_of_getElem? hx)))
      have HZ := Lib.hid (show ∀ p ∈ zs, p.length ≤ 1000000 from fun p hp => HL.out p (by
        rcases (HM.out p).1 hp with h | h
        · exact .inl h
        · exact .inr (List.mem_of_mem_take h)))
      clear hx
      obtain ⟨A, ca, rfl, hca, hcb, hT⟩ := HS.out
      have HT := Lib.hid hT
      clear hT
      go_wp2_with fail
      refine (with_any A ca zs (bys x) wr HT.out hca hcb (by omega) HZ.out (by rw [show (bys x).size = x.length by simp [bys, ByteArray.size]]; have := HX.out; omega)).mono ?_
      rintro e w2 ⟨v', zs', rfl, hN, hl', hm', hb⟩
      have HN := Lib.hid hN
      have HM4 := Lib.hid (show ∀ z, z ∈ zs' ↔ z ∈ ts ∨ z ∈ us.take (k + 1) from fun z => (hm' z).trans (by show z ∈ zs ∨ z = (bys x).data.toList ↔ _; rw [bys_data]; exact HM3.out z))
      replace HB := Lib.hid (HB.out.trans (hb.mono HB.out.size))
      clear hN hm' hb hc
      go_wp2_with fail
      go_roundw
      case rel => exact ⟨k + 1, zs', by omega, by go_num, by omega, HM4, HN, HB⟩
      case measure => simp [intOf]; omega
    · obtain rfl : k = us.length := by omega
      go_wp2_with fail
      go_ret
      exact ⟨_, zs, rfl, HS.out, hzl, fun z => by rw [HM.out z, List.take_length], HB.out⟩
end Go.Proofs.YthpioplpfmlgcaaGreatDoor.El
