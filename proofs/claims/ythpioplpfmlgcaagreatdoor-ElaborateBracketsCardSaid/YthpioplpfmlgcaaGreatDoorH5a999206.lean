/- The walk of ElaborateBrackets. -/
import Derived.Test.YthpioplpfmlgcaaGreatDoorHc9efa9a5
import Derived.Test.YthpioplpfmlgcaaGreatDoorHead8241c
import Derived.Test.YthpioplpfmlgcaaGreatDoorHd8a4362d
import Derived.BigQuiet
import Derived.Deep.DeepCutAuto
import Derived.Deep.CutBlock
namespace Go.Proofs.YthpioplpfmlgcaaGreatDoor.El
open Go.Proofs.YthpioplpfmlgcaaGreatDoor.At
open Go.Proofs.YthpioplpfmlgcaaGreatDoor.Ch
open Go.Proofs.YthpioplpfmlgcaaGreatDoor.Sp
open Go.Proofs.YthpioplpfmlgcaaGreatDoor.Sy
open Go.RowKit
theorem tree_err (rs : List Rul) (f : Nat) (t : Tre) (hf : countL t.kids < f) (e : Int) (p : List Int) (h : treeF rs f t = .bad e p) : e ≠ 0 := by
  unfold treeF at h
  split at h
  · cases hl : listM rs f t.kids [] 0 with
    | ok u =>
      rw [hl] at h
      dsimp only at h
      split at h
      · cases h
      · injection h with h1 _
        omega
    | bad e' p' =>
      rw [hl] at h
      dsimp only at h
      injection h with h1 _
      have := list_err rs f t.kids [] 0 hf e' p' hl
      omega
  · injection h with h1 _
    omega
theorem out_ok {m : Mea Trm} {p : List Int} {u : Trm} (hb : ∀ e p, m = .bad e p → e ≠ 0) (h : outT m = (0, p, u)) : m = .ok u := by
  cases m with
  | ok t =>
    injection h with _ h
    injection h with _ h
    rw [h]
  | bad e q =>
    injection h with h _
    exact absurd h (hb e q rfl)
theorem TokP.flat {rs : List Rul} {l : List Tre} {w w' : World} {e : Ending} (h : TokP rs l w e w') : ∃ v i f, e = .returned (.tuple #[v, .int .i64 i, .int .i64 f]) ∧ (f = 0 → ∃ ts, toksN rs l = .inl ts ∧ OwnToks w' w.heap.size v ts ∧ validB rs = true) ∧ Below w.heap.size w w' := by
  obtain ⟨h, hb⟩ := h
  split at h
  · next hc =>
    rw [Bool.and_eq_true] at hc
    cases ht : toksN rs l with
    | inl ts =>
      rw [ht] at h
      obtain ⟨v, h1, h2⟩ := h
      exact ⟨v, 0, 0, h1, fun _ => ⟨ts, rfl, h2, hc.1⟩, hb⟩
    | inr i =>
      rw [ht] at h
      exact ⟨_, _, _, h, fun h0 => absurd h0 (by decide), hb⟩
  · exact ⟨_, _, _, h, fun h0 => absurd h0 (by decide), hb⟩
theorem kid_one {w : World} {g : Nat} {t : Tre} {c : Array Value} (h : Blk w g 25 c) (hN : NodAt w t c) : KidsAt w (some ⟨g, 0, none⟩) [t] := fun i x hi => by
  cases i with
  | succ i => simp at hi
  | zero =>
    obtain rfl : t = x := by simpa using hi
    exact ⟨_, rfl, h.lt, c, hN, fun j hj => by rw [Nat.zero_mul, Nat.zero_add, addg, h.cell]⟩
theorem NRow.at_ {w0 w : World} {g k : Nat} {ts : List Tre} {x : Tre} (h : NRow w0 w g ts) (hx : ts[k]? = some x) : ∃ A3 cap3, NodAt w0 x #[.int .i64 x.kind, .string x.text, .int .i64 x.cols, .slice A3 x.kids.length cap3] ∧ w.cell? ⟨g, k * 4, none⟩ = some (.int .i64 x.kind) ∧ w.cell? ⟨g, k * 4 + 1, none⟩ = some (.string x.text) ∧ w.cell? ⟨g, k * 4 + 2, none⟩ = some (.int .i64 x.cols) ∧ w.cell? ⟨g, k * 4 + 3, none⟩ = some (.slice A3 x.kids.length cap3) := by
  obtain ⟨cur, h1, _, h3⟩ := h.cells
  obtain ⟨c, h4, h5⟩ := h3 k x hx
  obtain ⟨A3, cap3, rfl, _⟩ := h4.form
  exact ⟨A3, cap3, h4, (h1.cell _).trans (h5 0 (by omega)), (h1.cell _).trans (h5 1 (by omega)), (h1.cell _).trans (h5 2 (by omega)), (h1.cell _).trans (h5 3 (by omega))⟩
theorem countL_set : ∀ {ks : List Tre} {k : Nat} {x y : Tre}, ks[k]? = some x → countL (ks.set k y) + countT x = countL ks + countT y
  | [], k, x, y, h => by simp at h
  | a :: ks, 0, x, y, h => by
    obtain rfl : a = x := by simpa using h
    rw [List.set_cons_zero, countL, countL]
    omega
  | a :: ks, k + 1, x, y, h => by
    have := countL_set (y := y) (show ks[k]? = some x by simpa using h)
    rw [List.set_cons_succ, countL, countL]
    omega
theorem brk_tree {rs : List Rul} (hv : validB rs = true) {t : Tre} {ts : List ByteArray} {u : Trm} {k : Nat} {x : Tre} {tk : ByteArray} (hc : countL t.kids < 62) (hts : toksN rs t.kids = .inl ts) (hx : t.kids[k]? = some x) (ht : ts[k]? = some tk) (ht2 : tk.data.toList = [35]) (h : treeF rs 64 t = .ok u) (hvt : validT (rowT (t.kids.set k (brkT x))) = true) : treeF rs 64 (rowT (t.kids.set k (brkT x))) = .bad 6 [0] ∨ ∃ g, treeF rs 64 (rowT (t.kids.set k (brkT x))) = .ok g ∧ GrpIn u g := by
  unfold treeF at h
  split at h
  · cases hl : listM rs 64 t.kids [] 0 with
    | bad e p =>
      rw [hl] at h
      cases h
    | ok u2 =>
      rw [hl] at h
      dsimp only at h
      split at h
      · injection h with h
        subst h
        obtain ⟨g, h1, h2⟩ := list_brk hv (F := 62) hc hts hx ht ht2 hl
        unfold treeF
        rw [hv, hvt, if_pos (by rfl), show (rowT (t.kids.set k (brkT x))).kids = t.kids.set k (brkT x) from rfl, h1]
        dsimp only
        split
        · exact .inr ⟨g, rfl, h2⟩
        · exact .inl rfl
      · cases h
  · cases h
theorem stopB {p : Prop} (h : True → p) : p := h trivial
theorem reads_new {w : World} {size n : Nat} {A : Option Addr} {xs : List Value} {o : Obj} (h : Reads w w.heap.size size A n xs) : Reads (w.alloc o) w.heap.size size A n xs := by
  obtain ⟨h1, h2⟩ := h
  refine ⟨h1, fun h0 => ?_⟩
  obtain ⟨ad, h3, h4, h5⟩ := h2 h0
  exact ⟨ad, h3, h4, fun j v hj => by rw [← h5 j v hj]; exact (bel_alloc w o).cell (by rw [block_of_add]; exact h4)⟩
set_option maxRecDepth 100000 in
set_option maxHeartbeats 8000000 in
theorem brackets_walk (A : Option Addr) (cap : Nat) (rs : List Rul) (t : Tre) (c : Array Value) (a : Int) (w : World) (hR : RulsAt w A rs) (hrc : rs.length ≤ cap) (hcc : cap ≤ 9223372036854775807) (hN : NodAt w t c) (ha0 : 0 ≤ a) (ha1 : a ≤ 255) : Calls Tryz.prog 6 #[.slice A rs.length cap, .agg c, .int .u8 a] w fun e w' => e = .returned (.bool true) ∧ Below w.heap.size w w' := by
  obtain ⟨s0, hs, hy0, hy1, hy2⟩ := nod_parts
  obtain ⟨A2, cap2, rfl, hsz, hl2, hc2, hk⟩ := hN.form
  have B1 := bel_alloc w (.cells #[.int .i64 t.kind, .string t.text, .int .i64 t.cols, .slice A2 t.kids.length cap2] 25)
  have HB := Lib.hid B1
  have K0 := Lib.hid (Blk.new w 25 #[.int .i64 t.kind, .string t.text, .int .i64 t.cols, .slice A2 t.kids.length cap2])
  have HR := Lib.hid hR
  have HN := Lib.hid hN
  have HK := Lib.hid hk
  have HLN := Lib.hid (And.intro hrc hcc)
  have HKC := Lib.hid (And.intro hl2 hc2)
  have HA := Lib.hid (And.intro ha0 ha1)
  clear hR hN hk hsz B1 hrc hcc hl2 hc2 ha0 ha1
  go_enter Tryz.func6, Tryz.ntmps6
  go_upto_region 1 with (fail)
  generalize w.alloc (.cells #[.int .i64 t.kind, .string t.text, .int .i64 t.cols, .slice A2 t.kids.length cap2] 25) = w1 at *
  go_wp2_with fail
  refine (awake_any w1).mono ?_
  rintro e w5 ⟨rfl, hb⟩
  replace HB := Lib.hid (HB.out.trans (hb.mono HB.out.size))
  replace K0 := Lib.hid (keep hb K0.out)
  replace HR := Lib.hid (HR.out.keep HB.out)
  replace HN := Lib.hid (HN.out.keep HB.out)
  replace HK := Lib.hid (HK.out.keep HB.out)
  clear hb
  go_wp2_with fail
  refine (short40_any A cap rs w5 HR.out (by have := HLN.out; omega)).mono ?_
  rintro e w7 ⟨rfl, rfl⟩
  cases hs4 : short40 rs with
  | false =>
    clear hs4
    go_wp2_with fail
    exact bodyPost_ret (v := .bool true) (by simp [results, Tryz.results6, go_sem]) rfl ⟨rfl, HB.out⟩
  | true =>
  have HS40 := Lib.hid (short40_of hs4)
  clear hs4
  have n0 := K0.out.cell 0
  have n1 := K0.out.cell 1
  have n2 := K0.out.cell 2
  have n3 := K0.out.cell 3
  go_wp2_with fail
  refine (small_any t _ 60 w5 HN.out (by decide) (by decide)).mono ?_
  rintro e w7 ⟨rfl, hb⟩
  replace HB := Lib.hid (HB.out.trans (hb.mono HB.out.size))
  replace K0 := Lib.hid (keep hb K0.out)
  replace HR := Lib.hid (HR.out.keep hb)
  replace HN := Lib.hid (HN.out.keep hb)
  replace HK := Lib.hid (HK.out.keep hb)
  clear hb n0 n1 n2 n3
  cases hs4 : smallB t 60 with
  | false =>
    clear hs4
    go_wp2_with fail
    exact bodyPost_ret (v := .bool true) (by simp [results, Tryz.results6, go_sem]) rfl ⟨rfl, HB.out⟩
  | true =>
  have HC60 := Lib.hid (show countT t ≤ 60 by have h := (small_of (by decide) hs4).1; omega)
  clear hs4
  have n0 := K0.out.cell 0
  have n1 := K0.out.cell 1
  have n2 := K0.out.cell 2
  have n3 := K0.out.cell 3
  go_wp2_with fail
  refine (tree_any A cap rs 64 t _ w7 HR.out HLN.out.1 HLN.out.2 (by have := HS40.out; omega) HN.out (by have := HC60.out; have := kids_count t; omega)).mono ?_
  rintro e wa hm
  obtain ⟨cm, pA, pc, rfl, hmt, hpp, hp1, hp2, hb⟩ := hm.flat
  clear hpp hp1 hp2
  replace HB := Lib.hid (HB.out.trans (hb.mono HB.out.size))
  replace K0 := Lib.hid (keep hb K0.out)
  replace HR := Lib.hid (HR.out.keep hb)
  replace HN := Lib.hid (HN.out.keep hb)
  replace HK := Lib.hid (HK.out.keep hb)
  obtain ⟨o, ho⟩ : ∃ o, outT (treeF rs 64 t) = o := ⟨_, rfl⟩
  have HMM := Lib.hid hmt
  rw [ho] at HMM ⊢
  have HOO := Lib.hid ho
  clear hb n0 n1 n2 n3 hm hmt ho
  obtain ⟨er, p, u⟩ := o
  dsimp only at HMM ⊢
  obtain ⟨mA, mc, rfl, hm2⟩ := HMM.out.form
  clear hm2
  have n0 := K0.out.cell 0
  have n1 := K0.out.cell 1
  have n2 := K0.out.cell 2
  have n3 := K0.out.cell 3
  have z0 := fun i => (Blk.new wa 31 zerC).cell i
  have z1 := fun i => (Blk.new wa 31 zerC).frozen i
  go_upto_region 6 with (fail)
  have hb := bel_alloc wa (.cells #[.int .i64 u.kind, .string u.nam, .string u.vr, .slice mA u.args.length mc, .string u.form] 31)
  have K7 := Lib.hid (Blk.new wa 31 #[.int .i64 u.kind, .string u.nam, .string u.vr, .slice mA u.args.length mc, .string u.form])
  replace HB := Lib.hid (HB.out.trans (hb.mono HB.out.size))
  replace K0 := Lib.hid (keep hb K0.out)
  replace HR := Lib.hid (HR.out.keep hb)
  replace HK := Lib.hid (HK.out.keep hb)
  replace HMM := Lib.hid (HMM.out.keep hb)
  clear hb n0 n1 n2 n3 z0 z1 HN
  generalize wa.alloc (.cells #[.int .i64 u.kind, .string u.nam, .string u.vr, .slice mA u.args.length mc, .string u.form] 31) = wb at *
  generalize wa.heap.size = g7 at *
  have n3 := K0.out.cell 3
  go_wp2_with fail
  refine (rtoks_any A A2 cap cap2 rs t.kids wb HR.out (by have := HS40.out; omega) HK.out HKC.out.1 HKC.out.2 (by have h1 := len_count t.kids; have h3 := kids_count t; have h4 := HC60.out; omega) (by have h3 := kids_count t; have h4 := HC60.out; omega)).mono ?_
  rintro e wc htk
  obtain ⟨tv, ti, tf, rfl, htf, hb⟩ := htk.flat
  replace HB := Lib.hid (HB.out.trans (hb.mono HB.out.size))
  replace K0 := Lib.hid (keep hb K0.out)
  replace K7 := Lib.hid (keep hb K7.out)
  replace HR := Lib.hid (HR.out.keep hb)
  replace HK := Lib.hid (HK.out.keep hb)
  replace HMM := Lib.hid (HMM.out.keep hb)
  have HTF := Lib.hid htf
  clear hb n3 htk htf
  go_upto_region 7 with (fail)
  by_cases her : er = 0
  case neg =>
    have qe : (er != 0) = true := by rw [bne, beq_eq_false_iff_ne.2 her]; rfl
    clear her
    go_wp2_with fail
    exact bodyPost_ret (v := .bool true) (by simp [results, Tryz.results6, go_sem]) rfl ⟨rfl, HB.out⟩
  subst her
  have HOK := Lib.hid (out_ok (fun e p he => tree_err rs 64 t (by have := HC60.out; have := kids_count t; omega) e p he) HOO.out)
  by_cases htf : tf = 0
  case neg =>
    have qe : (tf != 0) = true := by rw [bne, beq_eq_false_iff_ne.2 htf]; rfl
    clear htf
    go_wp2_with fail
    exact bodyPost_ret (v := .bool true) (by simp [results, Tryz.results6, go_sem]) rfl ⟨rfl, HB.out⟩
  subst htf
  obtain ⟨ts, htn, hot', hvb⟩ := HTF.out rfl
  have hot : OwnToks wc wb.heap.size tv ts := hot'
  clear hot'
  obtain ⟨A7, c7, rfl⟩ := hot.len
  have HTN := Lib.hid htn
  have HVB := Lib.hid hvb
  have HTL := Lib.hid (toksN_len htn)
  clear htn hvb HTF
  by_cases h0 : ts.length = 0
  case pos =>
    have q0 : ((ts.length : Int) == 0) = true := by rw [beq_iff_eq]; omega
    clear h0 hot
    go_wp2_with fail
    exact bodyPost_ret (v := .bool true) (by simp [results, Tryz.results6, go_sem]) rfl ⟨rfl, HB.out⟩
  have q0 : ((ts.length : Int) == 0) = false := by rw [beq_eq_false_iff_ne]; omega
  obtain ⟨k, hkd⟩ : ∃ k, k = a.toNat % ts.length := ⟨_, rfl⟩
  have hkl : k < ts.length := by rw [hkd]; exact Nat.mod_lt _ (by omega)
  have hki : (k : Int) < (ts.length : Int) := by omega
  have hw : IntKind.i64.wrap a = a := IntWalk.i64_in _ (by have := HA.out; omega)
  have hmod : a.tmod (ts.length : Int) = (k : Int) := by
    rw [Int.tmod_eq_emod_of_nonneg HA.out.1, hkd, Int.natCast_emod, Int.toNat_of_nonneg HA.out.1]
  have hne0 : (ts.length : Int) ≠ 0 := by omega
  obtain ⟨tk, htk⟩ : ∃ tk, ts[k]? = some tk := ⟨_, List.getElem?_eq_getElem hkl⟩
  obtain ⟨gt, rfl, hgt, ct⟩ := hot.get htk
  have HTK := Lib.hid htk
  have HKL := Lib.hid hkl
  clear htk hkd hkl hot h0 hgt
  have d3 := K0.out.cell 3
  by_cases h35 : tk.data.toList = [35]
  case neg =>
    have q35 : (!tk.toList == [35]) = true := by rw [ByteArray.toList_eq, beq_eq_false_iff_ne.2 h35]; rfl
    have q36 : (tk.toList == [35]) = false := by rw [ByteArray.toList_eq]; exact beq_eq_false_iff_ne.2 h35
    clear h35
    go_wp2_with fail
    exact bodyPost_ret (v := .bool true) (by simp [results, Tryz.results6, go_sem]) rfl ⟨rfl, HB.out⟩
  have q35 : (tk.toList == [35]) = true := by rw [ByteArray.toList_eq, h35]; rfl
  have H35 := Lib.hid h35
  clear h35
  go_upto_region 10 with (fail)
  have HRC := HR
  have HMC := HMM
  have HWC := Lib.hid HB.out.size
  have HG7 := Lib.hid K7.out.lt
  obtain ⟨css, hcs, hrd⟩ := nods_cells HK.out
  have hba := bel_alloc wc (.cells #[] 25)
  have HO := Lib.hid (own_none wc)
  have HRD := Lib.hid (reads_new (o := .cells #[] 25) hrd)
  have HCS := Lib.hid hcs
  have HBA := Lib.hid hba
  have HKN := Lib.hid (show t.kids.length ≤ 60 by have h1 := len_count t.kids; have h3 := kids_count t; have h4 := HC60.out; omega)
  have a3 := (keep hba K0.out).cell 3
  clear hba hcs hrd q35 ct d3 hw hmod hne0 hki q0
  go_wp2_with (at_builtin; refine stopB ?_)
  intro _
  refine Ch.wpList_append_any _ rfl (.tmp 71) (.tmp 73) 23 rfl wc.heap.size 25 s0 _ 4 56 Tryz.underlying23 hs hy0 hy1 hy2 rfl (by decide) _ _ _ rfl HO.out _ A2 t.kids.length cap2 _ rfl HRD.out HCS.out.one (by have := HKN.out; unfold maxLen; omega) (by have := HKN.out; omega) (by simp) ?_
  intro v' w8 q2 q3 q4
  have hb : Below wc.heap.size wc w8 := HBA.out.grown q3 HBA.out.size fun r e => by have := Option.some.inj (show some wc.heap.size = some r from e); omega
  obtain ⟨gx, cx, rfl, hcx1, hcx2, hrow⟩ := nrow_of HCS.out q2 (by simp) (fun e => by have h1 := HKL.out; have h2 : ts.length = 0 := (HTL.out.trans (by rw [e]; rfl)); omega) hb (Nat.le_refl _)
  have HROW := Lib.hid hrow
  have HCX := Lib.hid (And.intro hcx1 hcx2)
  replace HB := Lib.hid (HB.out.trans (hb.mono HB.out.size))
  replace K0 := Lib.hid (keep hb K0.out)
  replace K7 := Lib.hid (keep hb K7.out)
  replace HR := Lib.hid (HR.out.keep hb)
  replace HMM := Lib.hid (HMM.out.keep hb)
  clear hb q2 q3 q4 hrow hcx1 hcx2 a3 HO HRD HBA HK
  go_upto_region 11 with (fail)
  obtain ⟨x, hx⟩ : ∃ x, t.kids[k]? = some x := ⟨_, List.getElem?_eq_getElem (by have h1 := HKL.out; have h2 := HTL.out; omega)⟩
  obtain ⟨A3, cap3, hxn, d0, d1, d2, d3⟩ := HROW.out.at_ hx
  have HXN := Lib.hid hxn
  clear hxn
  have HXX := Lib.hid hx
  have hkl : (k : Int) < (t.kids.length : Int) := by have h1 := HKL.out; have h2 := HTL.out; omega
  clear hx
  go_wp2_with fail
  have hb := bel_alloc w8 (.cells #[.int .i64 x.kind, .string x.text, .int .i64 x.cols, .slice A3 x.kids.length cap3] 25)
  have P1 := Lib.hid (Blk.new w8 25 #[.int .i64 x.kind, .string x.text, .int .i64 x.cols, .slice A3 x.kids.length cap3])
  have HGX := Lib.hid (show gx < w8.heap.size by obtain ⟨cur, h1, _⟩ := HROW.out.cells; exact h1.lt)
  replace HB := Lib.hid (HB.out.trans (hb.mono HB.out.size))
  replace K7 := Lib.hid (keep hb K7.out)
  replace HR := Lib.hid (HR.out.keep hb)
  replace HMM := Lib.hid (HMM.out.keep hb)
  replace HROW := Lib.hid (HROW.out.keep hb)
  clear hb d0 d1 d2 d3 K0
  generalize w8.alloc (.cells #[.int .i64 x.kind, .string x.text, .int .i64 x.cols, .slice A3 x.kids.length cap3] 25) = w9 at *
  generalize w8.heap.size = p1 at *
  refine (row_any (some ⟨p1, 0, none⟩) 1 1 w9).mono ?_
  rintro e wA ⟨rfl, hb⟩
  have HP1 := Lib.hid P1.out.lt
  replace HB := Lib.hid (HB.out.trans (hb.mono HB.out.size))
  replace K7 := Lib.hid (keep hb K7.out)
  replace P1 := Lib.hid (keep hb P1.out)
  replace HR := Lib.hid (HR.out.keep hb)
  replace HMM := Lib.hid (HMM.out.keep hb)
  replace HROW := Lib.hid (HROW.out.keep hb)
  replace HP1 := Lib.hid (show p1 < wA.heap.size by have := HP1.out; have := hb.size; omega)
  clear hb
  have hb := bel_alloc wA (.cells #[.int .i64 1, .string ⟨#[]⟩, .int .i64 0, .slice (some ⟨p1, 0, none⟩) 1 1] 25)
  have P2 := Lib.hid (Blk.new wA 25 #[.int .i64 1, .string ⟨#[]⟩, .int .i64 0, .slice (some ⟨p1, 0, none⟩) 1 1])
  replace HB := Lib.hid (HB.out.trans (hb.mono HB.out.size))
  replace K7 := Lib.hid (keep hb K7.out)
  replace P1 := Lib.hid (keep hb P1.out)
  replace HR := Lib.hid (HR.out.keep hb)
  replace HMM := Lib.hid (HMM.out.keep hb)
  replace HROW := Lib.hid (HROW.out.keep hb)
  obtain ⟨A4, cap4, -, d0, d1, d2, d3⟩ := HROW.out.at_ HXX.out
  have kf : ∀ i, (wA.alloc (.cells #[.int .i64 1, .string ⟨#[]⟩, .int .i64 0, .slice (some ⟨p1, 0, none⟩) 1 1] 25)).frozen? ⟨gx, i, none⟩ = false := by
    obtain ⟨cur, h1, _⟩ := HROW.out.cells
    exact fun i => h1.frozen i
  go_upto_region 12 with (fail)
  clear hb d0 d1 d2 d3 kf hkl
  generalize wA.alloc (.cells #[.int .i64 1, .string ⟨#[]⟩, .int .i64 0, .slice (some ⟨p1, 0, none⟩) 1 1] 25) = wB at *
  obtain ⟨p2, hp2⟩ : ∃ p2, p2 = wA.heap.size := ⟨_, rfl⟩
  rw [← hp2] at P2 HP1 ⊢
  clear hp2
  have HG := Lib.hid (show wB.grownBy ((((wB.setCell ⟨gx, k * 4, none⟩ (.int .i64 11)).setCell ⟨gx, k * 4 + 1, none⟩ (.string ⟨#[40, 41]⟩)).setCell ⟨gx, k * 4 + 2, none⟩ (.int .i64 0)).setCell ⟨gx, k * 4 + 3, none⟩ (.slice (some ⟨p2, 0, none⟩) 1 1)) (some gx) from setsAt_grown [.int .i64 11, .string ⟨#[40, 41]⟩, .int .i64 0, .slice (some ⟨p2, 0, none⟩) 1 1] wB gx (k * 4))
  have HBC := Lib.hid (show Below wc.heap.size wc ((((wB.setCell ⟨gx, k * 4, none⟩ (.int .i64 11)).setCell ⟨gx, k * 4 + 1, none⟩ (.string ⟨#[40, 41]⟩)).setCell ⟨gx, k * 4 + 2, none⟩ (.int .i64 0)).setCell ⟨gx, k * 4 + 3, none⟩ (.slice (some ⟨p2, 0, none⟩) 1 1)) from HROW.out.bel.grown HG.out HROW.out.bel.size fun r e => by have := Option.some.inj e; have := HROW.out.lo; omega)
  have Q1 := Lib.hid (P1.out.grown HG.out fun e => by have := Option.some.inj e; have := HGX.out; omega)
  have Q2 := Lib.hid (P2.out.grown HG.out fun e => by have := Option.some.inj e; have := HGX.out; have := HP1.out; omega)
  have HKD := Lib.hid (show KidsAt ((((wB.setCell ⟨gx, k * 4, none⟩ (.int .i64 11)).setCell ⟨gx, k * 4 + 1, none⟩ (.string ⟨#[40, 41]⟩)).setCell ⟨gx, k * 4 + 2, none⟩ (.int .i64 0)).setCell ⟨gx, k * 4 + 3, none⟩ (.slice (some ⟨p2, 0, none⟩) 1 1)) (some ⟨gx, 0, none⟩) (t.kids.set k (brkT x)) from HROW.out.put (y := brkT x) (by have h1 := HKL.out; have h2 := HTL.out; omega) (show NodAt ((((wB.setCell ⟨gx, k * 4, none⟩ (.int .i64 11)).setCell ⟨gx, k * 4 + 1, none⟩ (.string ⟨#[40, 41]⟩)).setCell ⟨gx, k * 4 + 2, none⟩ (.int .i64 0)).setCell ⟨gx, k * 4 + 3, none⟩ (.slice (some ⟨p2, 0, none⟩) 1 1)) (.mk 11 ⟨#[40, 41]⟩ 0 [.mk 1 ⟨#[]⟩ 0 [x]]) _ from NodAt.of (ks := [.mk 1 ⟨#[]⟩ 0 [x]]) (by decide) (Nat.le_refl _) (by decide) (kid_one Q2.out (NodAt.of (ks := [x]) (by decide) (Nat.le_refl _) (by decide) (kid_one Q1.out (HXN.out.keep HBC.out))))))
  have HB0 := Lib.hid (HB.out.grown HG.out HB.out.size fun r e => by have := Option.some.inj e; have := HROW.out.lo; have := HWC.out; omega)
  have K70 := Lib.hid (K7.out.grown HG.out fun e => by have := Option.some.inj e; have := HROW.out.lo; have := HG7.out; omega)
  have HR0 := Lib.hid ((HRC.out.keep HBC.out))
  have HM0 := Lib.hid ((HMC.out.keep HBC.out))
  clear HG HBC Q1 Q2 P1 P2 HROW HB K7 HR HMM
  generalize (((wB.setCell ⟨gx, k * 4, none⟩ (.int .i64 11)).setCell ⟨gx, k * 4 + 1, none⟩ (.string ⟨#[40, 41]⟩)).setCell ⟨gx, k * 4 + 2, none⟩ (.int .i64 0)).setCell ⟨gx, k * 4 + 3, none⟩ (.slice (some ⟨p2, 0, none⟩) 1 1) = wC at *
  have HB := HB0
  have K7 := K70
  have HR := HR0
  have HMM := HM0
  clear HB0 K70 HR0 HM0 HRC HMC
  obtain ⟨l2, hl2⟩ : ∃ l2, l2 = t.kids.set k (brkT x) := ⟨_, rfl⟩
  rw [← hl2] at HKD
  have HL2 := Lib.hid (show l2.length = t.kids.length by rw [hl2, List.length_set])
  have HCL := Lib.hid (show countL l2 ≤ 61 by
    have h1 := countL_set (y := brkT x) HXX.out
    have h2 : countT (brkT x) = countT x + 2 := by show countT (.mk 11 brkS 0 [.mk 1 ⟨#[]⟩ 0 [x]]) = _; rw [countT, countL, countL, countT, countL, countL]
    have h3 := kids_count t
    have h4 := HC60.out
    rw [hl2]; omega)
  have HBT := Lib.hid (show validT (rowT l2) = true → treeF rs 64 (rowT l2) = .bad 6 [0] ∨ ∃ g, treeF rs 64 (rowT l2) = .ok g ∧ GrpIn u g by
    rw [hl2]
    exact brk_tree HVB.out (by have := kids_count t; have := HC60.out; omega) HTN.out HXX.out HTK.out H35.out HOK.out)
  clear hl2
  go_wp2_with fail
  refine (row_any (some ⟨gx, 0, none⟩) t.kids.length cx wC).mono ?_
  rintro e wD ⟨rfl, hb⟩
  replace HB := Lib.hid (HB.out.trans (hb.mono HB.out.size))
  replace K7 := Lib.hid (keep hb K7.out)
  replace HR := Lib.hid (HR.out.keep hb)
  replace HMM := Lib.hid (HMM.out.keep hb)
  replace HKD := Lib.hid (HKD.out.keep hb)
  clear hb
  have z0 := fun i => (Blk.new wD 25 #[.int .i64 0, .string ⟨#[]⟩, .int .i64 0, .slice none 0 0]).cell i
  have z1 := fun i => (Blk.new wD 25 #[.int .i64 0, .string ⟨#[]⟩, .int .i64 0, .slice none 0 0]).frozen i
  go_upto_region 13 with (fail)
  have hb := bel_alloc wD (.cells #[.int .i64 1, .string ⟨#[]⟩, .int .i64 0, .slice (some ⟨gx, 0, none⟩) t.kids.length cx] 25)
  have K5 := Lib.hid (Blk.new wD 25 #[.int .i64 1, .string ⟨#[]⟩, .int .i64 0, .slice (some ⟨gx, 0, none⟩) t.kids.length cx])
  replace HB := Lib.hid (HB.out.trans (hb.mono HB.out.size))
  replace K7 := Lib.hid (keep hb K7.out)
  replace HR := Lib.hid (HR.out.keep hb)
  replace HMM := Lib.hid (HMM.out.keep hb)
  replace HKD := Lib.hid (HKD.out.keep hb)
  clear hb z0 z1
  generalize wD.alloc (.cells #[.int .i64 1, .string ⟨#[]⟩, .int .i64 0, .slice (some ⟨gx, 0, none⟩) t.kids.length cx] 25) = wE at *
  generalize wD.heap.size = g5 at *
  have HRN := Lib.hid (show NodAt wE (rowT l2) #[.int .i64 1, .string ⟨#[]⟩, .int .i64 0, .slice (some ⟨gx, 0, none⟩) t.kids.length cx] by rw [← HL2.out]; exact NodAt.of (ks := l2) (by decide) (by rw [HL2.out]; exact HCX.out.1) HCX.out.2 HKD.out)
  clear HKD
  have n0 := K5.out.cell 0
  have n1 := K5.out.cell 1
  have n2 := K5.out.cell 2
  have n3 := K5.out.cell 3
  go_wp2_with fail
  refine (At.rvalid_any (rowT l2) _ wE (by have := HCL.out; rw [rowT, countT]; omega) HRN.out).mono ?_
  rintro e wF ⟨rfl, hb⟩
  replace HB := Lib.hid (HB.out.trans (hb.mono HB.out.size))
  replace K5 := Lib.hid (keep hb K5.out)
  replace K7 := Lib.hid (keep hb K7.out)
  replace HR := Lib.hid (HR.out.keep hb)
  replace HMM := Lib.hid (HMM.out.keep hb)
  replace HRN := Lib.hid (HRN.out.keep hb)
  clear hb n0 n1 n2 n3
  cases hvt : validT (rowT l2) with
  | false =>
    clear hvt
    go_wp2_with fail
    exact bodyPost_ret (v := .bool true) (by simp [results, Tryz.results6, go_sem]) rfl ⟨rfl, HB.out⟩
  | true =>
  have HBU := Lib.hid (HBT.out hvt)
  clear hvt HBT
  have n0 := K5.out.cell 0
  have n1 := K5.out.cell 1
  have n2 := K5.out.cell 2
  have n3 := K5.out.cell 3
  go_wp2_with fail
  refine (tree_any A cap rs 64 (rowT l2) _ wF HR.out HLN.out.1 HLN.out.2 (by have := HS40.out; omega) HRN.out (by have := HCL.out; show countL l2 < 64; omega)).mono ?_
  rintro e wG hm
  rcases HBU.out with hb6 | ⟨g, hg, hgi⟩
  · rw [hb6] at hm
    obtain ⟨⟨pB, pd, rfl, -, -, -⟩, hb⟩ := hm
    replace HB := Lib.hid (HB.out.trans (hb.mono HB.out.size))
    clear hb hb6 n0 n1 n2 n3 HBU
    have z0 := fun i => (Blk.new wG 31 zerC).cell i
    have z1 := fun i => (Blk.new wG 31 zerC).frozen i
    go_upto_region 16 with (fail)
    have hb := bel_alloc wG (.cells zerC 31)
    replace HB := Lib.hid (HB.out.trans (hb.mono HB.out.size))
    clear hb z0 z1
    generalize wG.alloc (.cells zerC 31) = wH at *
    go_wp2_with fail
    exact bodyPost_ret (v := .bool true) (by simp [results, Tryz.results6, go_sem]) rfl ⟨rfl, HB.out⟩
  rw [hg] at hm
  obtain ⟨⟨cg, rfl, hgt⟩, hb⟩ := hm
  have HGT := Lib.hid hgt
  have HGI := Lib.hid (grp_in hgi)
  replace HB := Lib.hid (HB.out.trans (hb.mono HB.out.size))
  replace K7 := Lib.hid (keep hb K7.out)
  replace HMM := Lib.hid (HMM.out.keep hb)
  obtain ⟨gA, gc, rfl, -⟩ := HGT.out.form
  clear hb hg hgi hgt n0 n1 n2 n3 HBU
  have z0 := fun i => (Blk.new wG 31 zerC).cell i
  have z1 := fun i => (Blk.new wG 31 zerC).frozen i
  go_upto_region 16 with (fail)
  have hb := bel_alloc wG (.cells #[.int .i64 g.kind, .string g.nam, .string g.vr, .slice gA g.args.length gc, .string g.form] 31)
  have K9 := Lib.hid (Blk.new wG 31 #[.int .i64 g.kind, .string g.nam, .string g.vr, .slice gA g.args.length gc, .string g.form])
  replace HB := Lib.hid (HB.out.trans (hb.mono HB.out.size))
  replace K7 := Lib.hid (keep hb K7.out)
  replace HMM := Lib.hid (HMM.out.keep hb)
  replace HGT := Lib.hid (HGT.out.keep hb)
  clear hb z0 z1
  generalize wG.alloc (.cells #[.int .i64 g.kind, .string g.nam, .string g.vr, .slice gA g.args.length gc, .string g.form] 31) = wH at *
  generalize wG.heap.size = g9 at *
  have z0 := fun i => K7.out.cell i
  have z1 := fun i => K9.out.cell i
  go_wp2_with fail
  refine (grouped_any _ u g _ _ 1 wH (Nat.le_refl _) (by decide) (by decide) HMM.out.mat HGT.out.mat).mono ?_
  rintro e wI ⟨he, hb⟩
  rw [HGI.out] at he
  subst he
  replace HB := Lib.hid (HB.out.trans (hb.mono HB.out.size))
  clear hb z0 z1
  go_wp2_with fail
  exact bodyPost_ret (v := .bool true) (by simp [results, Tryz.results6, go_sem]) rfl ⟨rfl, HB.out⟩
end Go.Proofs.YthpioplpfmlgcaaGreatDoor.El
