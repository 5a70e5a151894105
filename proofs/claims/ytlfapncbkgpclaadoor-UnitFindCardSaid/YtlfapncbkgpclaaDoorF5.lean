/- UnitFind's law returns true. -/
import Derived.Test.YtlfapncbkgpclaaDoorF4
import Derived.Test.YtlfapncbkgpclaaDoorC5
import Derived.Test.YtlfapncbkgpclaaDoorQ8
import Derived.Test.YtlfapncbkgpclaaDoorA
import Derived.Test.YtlfapncbkgpclaaDoorE
namespace Go.Proofs.YtlfapncbkgpclaaDoor
open Go.RowKit
theorem feq_dim9 (x0 x1 x2 x3 x4 x5 x6 y0 y1 y2 y3 y4 y5 y6 : Int) (w : World) : (Op.equalIn 9999 23 (.agg #[.int .i64 x0, .int .i64 x1, .int .i64 x2, .int .i64 x3, .int .i64 x4, .int .i64 x5, .int .i64 x6]) (.agg #[.int .i64 y0, .int .i64 y1, .int .i64 y2, .int .i64 y3, .int .i64 y4, .int .i64 y5, .int .i64 y6])).run Tryd.prog w = .ok (D7.beq ⟨x0, x1, x2, x3, x4, x5, x6⟩ ⟨y0, y1, y2, y3, y4, y5, y6⟩) w :=
  eq_dim0 9997 ⟨x0, x1, x2, x3, x4, x5, x6⟩ ⟨y0, y1, y2, y3, y4, y5, y6⟩ w
theorem feq_dim8 (x0 x1 x2 x3 x4 x5 x6 y0 y1 y2 y3 y4 y5 y6 : Int) (w : World) : (Op.equalIn 9998 23 (.agg #[.int .i64 x0, .int .i64 x1, .int .i64 x2, .int .i64 x3, .int .i64 x4, .int .i64 x5, .int .i64 x6]) (.agg #[.int .i64 y0, .int .i64 y1, .int .i64 y2, .int .i64 y3, .int .i64 y4, .int .i64 y5, .int .i64 y6])).run Tryd.prog w = .ok (D7.beq ⟨x0, x1, x2, x3, x4, x5, x6⟩ ⟨y0, y1, y2, y3, y4, y5, y6⟩) w :=
  eq_dim0 9996 ⟨x0, x1, x2, x3, x4, x5, x6⟩ ⟨y0, y1, y2, y3, y4, y5, y6⟩ w
theorem find_own : ∀ (l : List Un), (l.map (·.nm)).Nodup → ∀ u ∈ l, l.find? (isU u.nm) = some u
  | [], _, u, h => by cases h
  | a :: r, hn, u, h => by
    rw [List.map_cons, List.nodup_cons] at hn
    by_cases e : a.nm = u.nm
    · rcases List.mem_cons.1 h with rfl | hr
      · rw [List.find?_cons, show isU u.nm u = true from decide_eq_true rfl]
      · exact absurd (List.mem_map.2 ⟨u, hr, e.symm⟩) hn.1
    · have hr : u ∈ r := by
        rcases List.mem_cons.1 h with rfl | hr
        · exact absurd rfl e
        · exact hr
      rw [List.find?_cons, show isU u.nm a = false from decide_eq_false e]
      exact find_own r hn.2 u hr
theorem units_nodup : (units.map (·.nm)).Nodup := by decide +kernel
theorem units_valid : units.all (fun u => u.v.ok) = true := by decide +kernel
theorem find_unit {k : Nat} {u : Un} (h : units[k]? = some u) : findU u.nm = some u ∧ u.v.ok = true :=
  ⟨find_own units units_nodup u (List.mem_of_getElem? h), List.all_eq_true.1 units_valid u (List.mem_of_getElem? h)⟩
theorem fV_ex (r : Option Un) : ∃ (x : V9) (b : Bool), fV r = .tuple #[x.v, .bool b] := by
  cases r with
  | none => exact ⟨_, _, rfl⟩
  | some u => exact ⟨_, _, rfl⟩
/-- what the law's boxes hold -/
structure LSt (w : World) (g5 g7 gl gm : Nat) (x : V9) (y : World) : Prop where
  bel : Below w.heap.size w y
  k5 : Blk y g5 35 x.c
  k7 : Blk y g7 35 x.c
  l : UnAt y gl units
  m : UnAt y gm units
theorem LSt.next {w y z : World} {g5 g7 gl gm : Nat} {x : V9} (h : LSt w g5 g7 gl gm x y) (hb : Below y.heap.size y z) : LSt w g5 g7 gl gm x z :=
  ⟨h.bel.trans (hb.mono h.bel.size), keep hb h.k5, keep hb h.k7, h.l.keep hb, h.m.keep hb⟩
set_option maxRecDepth 100000 in
set_option maxHeartbeats 8000000 in
theorem find_walk (s : ByteArray) (n : Int) (w : World) (haw : Awake w) (hn1 : 0 ≤ n) (hn2 : n ≤ 255) : Calls Tryd.prog 6 #[.string s, .int .u8 n] w fun e w' => e = .returned (.bool true) ∧ Below w.heap.size w w' := by
  have heq := feq_dim9
  have hself := beq_self
  obtain ⟨x, b, hX⟩ := fV_ex (findU s)
  have HX := Lib.hid hX
  clear hX
  go_enter Tryd.func6, Tryd.ntmps6
  go_wp2_with fail
  refine (haw _ (Below.refl _ _)).mono ?_
  rintro e w1 ⟨rfl, hb⟩
  clear haw
  have HB := Lib.hid hb
  clear hb
  go_wp2_with fail
  refine (find_any s w1).mono ?_
  rintro e w2 ⟨he, hb⟩
  rw [HX.out] at he
  subst he
  replace HB := Lib.hid (HB.out.trans (hb.mono HB.out.size))
  clear hb
  have hba := bel_fin w2 (.cells x.c 35)
  have K5 := Lib.hid (Blk.new w2 35 x.c)
  replace HB := Lib.hid (HB.out.trans (hba.mono HB.out.size))
  clear hba
  go_upto_region 4 with (fail)
  generalize w2.alloc (.cells _ 35) = w3 at *
  generalize w2.heap.size = g5 at *
  go_wp2_with fail
  refine (rfind_any s w3).mono ?_
  rintro e w4 ⟨he, hb⟩
  rw [HX.out] at he
  subst he
  replace HB := Lib.hid (HB.out.trans (hb.mono HB.out.size))
  replace K5 := Lib.hid (keep hb K5.out)
  clear hb
  have hba := bel_fin w4 (.cells x.c 35)
  have K7 := Lib.hid (Blk.new w4 35 x.c)
  replace HB := Lib.hid (HB.out.trans (hba.mono HB.out.size))
  replace K5 := Lib.hid (keep hba K5.out)
  clear hba
  go_upto_region 5 with (fail)
  generalize w4.alloc (.cells _ 35) = w5 at *
  generalize w4.heap.size = g7 at *
  go_wp2_with fail
  refine (all_any w5).mono ?_
  rintro e w6 ⟨gl, cl, rfl, hcl, hUl, hb⟩
  replace HB := Lib.hid (HB.out.trans (hb.mono HB.out.size))
  replace K5 := Lib.hid (keep hb K5.out)
  replace K7 := Lib.hid (keep hb K7.out)
  have HL := Lib.hid hUl
  clear hb hUl
  go_wp2_with fail
  refine (rall_any w6).mono ?_
  rintro e w7 ⟨gm, cm, rfl, hcm, hUm, hb⟩
  have S := Lib.hid (LSt.mk (x := x) (HB.out.trans (hb.mono HB.out.size)) (keep hb K5.out) (keep hb K7.out) (HL.out.keep hb) hUm)
  clear hb hUm HB K5 K7 HL
  have hbb : (b != b) = false := bne_self_eq_false b
  obtain ⟨k, hk, hk27⟩ : ∃ k : Nat, n.tmod 27 = (k : Int) ∧ k < 27 := ⟨(n.tmod 27).toNat, by rw [Int.tmod_eq_emod_of_nonneg hn1]; omega, by rw [Int.tmod_eq_emod_of_nonneg hn1]; omega⟩
  obtain ⟨u, hu⟩ : ∃ u, units[k]? = some u := ⟨_, List.getElem?_eq_getElem (by rw [units_len]; exact hk27)⟩
  have HFU := Lib.hid (find_unit hu)
  have HU := Lib.hid hu
  clear hu
  have c5 := fun i => S.out.k5.cell i
  have c7 := fun i => S.out.k7.cell i
  go_upto_region 9 with (fail)
  clear c5 c7
  have d0 : w7.cell? ⟨gl, k * 10, none⟩ = some (.string u.nm) := S.out.l.2 k 0 u _ HU.out rfl
  have hlg := S.out.l.1
  go_wp2_with fail
  refine (find_any u.nm w7).mono ?_
  rintro e w8 ⟨he, hb⟩
  rw [HFU.out.1] at he
  replace he : e = .returned (.tuple #[u.v.v, .bool true]) := he
  subst he
  replace S := Lib.hid (S.out.next hb)
  clear hb d0 hlg
  have hba := bel_fin w8 (.cells u.v.c 35)
  have K12 := Lib.hid (Blk.new w8 35 u.v.c)
  replace S := Lib.hid (S.out.next hba)
  clear hba
  go_upto_region 10 with (fail)
  generalize w8.alloc (.cells _ 35) = w9 at *
  generalize w8.heap.size = g12 at *
  have heq8 := feq_dim8
  have hst : (u.nm.toList == u.nm.toList) = true := beq_self_eq_true _
  have hgl := fun e : Ext w9 => (S.out.next e.bel).l.1
  have hgm := fun e : Ext w9 => (S.out.next e.bel).m.1
  refine wp_region_ext (by kernel_rfl) (by kernel_rfl) ?_
  have L0 := fun e : Ext w9 => show e.val.cell? ⟨gl, k * 10, none⟩ = some (.string u.nm) from (S.out.next e.bel).l.2 k 0 u _ HU.out rfl
  have L1 := fun e : Ext w9 => show e.val.cell? ⟨gl, k * 10 + 1, none⟩ = some (.int .i64 u.v.n) from (S.out.next e.bel).l.2 k 1 u _ HU.out rfl
  have L2 := fun e : Ext w9 => show e.val.cell? ⟨gl, k * 10 + 2, none⟩ = some (.int .i64 u.v.d) from (S.out.next e.bel).l.2 k 2 u _ HU.out rfl
  have L3 := fun e : Ext w9 => show e.val.cell? ⟨gl, k * 10 + 3, none⟩ = some (.int .i64 u.v.m.a0) from (S.out.next e.bel).l.2 k 3 u _ HU.out rfl
  have L4 := fun e : Ext w9 => show e.val.cell? ⟨gl, k * 10 + 4, none⟩ = some (.int .i64 u.v.m.a1) from (S.out.next e.bel).l.2 k 4 u _ HU.out rfl
  have L5 := fun e : Ext w9 => show e.val.cell? ⟨gl, k * 10 + 5, none⟩ = some (.int .i64 u.v.m.a2) from (S.out.next e.bel).l.2 k 5 u _ HU.out rfl
  have L6 := fun e : Ext w9 => show e.val.cell? ⟨gl, k * 10 + 6, none⟩ = some (.int .i64 u.v.m.a3) from (S.out.next e.bel).l.2 k 6 u _ HU.out rfl
  have L7 := fun e : Ext w9 => show e.val.cell? ⟨gl, k * 10 + 7, none⟩ = some (.int .i64 u.v.m.a4) from (S.out.next e.bel).l.2 k 7 u _ HU.out rfl
  have L8 := fun e : Ext w9 => show e.val.cell? ⟨gl, k * 10 + 8, none⟩ = some (.int .i64 u.v.m.a5) from (S.out.next e.bel).l.2 k 8 u _ HU.out rfl
  have L9 := fun e : Ext w9 => show e.val.cell? ⟨gl, k * 10 + 9, none⟩ = some (.int .i64 u.v.m.a6) from (S.out.next e.bel).l.2 k 9 u _ HU.out rfl
  have M0 := fun e : Ext w9 => show e.val.cell? ⟨gm, k * 10, none⟩ = some (.string u.nm) from (S.out.next e.bel).m.2 k 0 u _ HU.out rfl
  have M1 := fun e : Ext w9 => show e.val.cell? ⟨gm, k * 10 + 1, none⟩ = some (.int .i64 u.v.n) from (S.out.next e.bel).m.2 k 1 u _ HU.out rfl
  have M2 := fun e : Ext w9 => show e.val.cell? ⟨gm, k * 10 + 2, none⟩ = some (.int .i64 u.v.d) from (S.out.next e.bel).m.2 k 2 u _ HU.out rfl
  have M3 := fun e : Ext w9 => show e.val.cell? ⟨gm, k * 10 + 3, none⟩ = some (.int .i64 u.v.m.a0) from (S.out.next e.bel).m.2 k 3 u _ HU.out rfl
  have M4 := fun e : Ext w9 => show e.val.cell? ⟨gm, k * 10 + 4, none⟩ = some (.int .i64 u.v.m.a1) from (S.out.next e.bel).m.2 k 4 u _ HU.out rfl
  have M5 := fun e : Ext w9 => show e.val.cell? ⟨gm, k * 10 + 5, none⟩ = some (.int .i64 u.v.m.a2) from (S.out.next e.bel).m.2 k 5 u _ HU.out rfl
  have M6 := fun e : Ext w9 => show e.val.cell? ⟨gm, k * 10 + 6, none⟩ = some (.int .i64 u.v.m.a3) from (S.out.next e.bel).m.2 k 6 u _ HU.out rfl
  have M7 := fun e : Ext w9 => show e.val.cell? ⟨gm, k * 10 + 7, none⟩ = some (.int .i64 u.v.m.a4) from (S.out.next e.bel).m.2 k 7 u _ HU.out rfl
  have M8 := fun e : Ext w9 => show e.val.cell? ⟨gm, k * 10 + 8, none⟩ = some (.int .i64 u.v.m.a5) from (S.out.next e.bel).m.2 k 8 u _ HU.out rfl
  have M9 := fun e : Ext w9 => show e.val.cell? ⟨gm, k * 10 + 9, none⟩ = some (.int .i64 u.v.m.a6) from (S.out.next e.bel).m.2 k 9 u _ HU.out rfl
  have C12 := fun (e : Ext w9) (i : Nat) => (keep e.bel K12.out).cell i
  have HC := Lib.hid (fun e : Ext w9 => Calls.ext (e := e) (v := .bool true) (by have h := vv_any u.v e.val; rw [HFU.out.2] at h; exact h))
  repeat (go_big_quiet_step (fail))
  go_big_quiet_step ((rename_i e; exact HC.out e))
  repeat (go_big_quiet_step (fail))
  refine wpQuiet_nil ?_
  intro wq hwq
  obtain ⟨⟨wz, hb⟩, e9⟩ := hwq
  dsimp only at e9
  subst e9
  replace S := Lib.hid (S.out.next hb)
  go_wp2_with fail
  go_ret
  exact ⟨rfl, S.out.bel⟩
end Go.Proofs.YtlfapncbkgpclaaDoor
