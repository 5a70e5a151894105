/- The walk of SpeechRenamed. -/
import Derived.Test.YtpokelkneblafaaGreatDoorRZ2
import Derived.Test.YtpokelkneblafaaGreatDoorWZ
import Derived.Test.YtpokelkneblafaaGreatDoorPV
namespace Go.Proofs.YtpokelkneblafaaGreatDoor
open Go.RowKit
theorem mat_tm {w : World} {t : Trm} {c : Array Value} (h : MAt w t c) : TmAt (fun b => b < w.heap.size) w t c := by
  induction h with
  | mk k a v f ts A cap ad cs ha hv hf hn hc hA hcell hk ih => exact .mk k a v f ts A cap ad cs ha hv hf hn hc (hA.imp id fun ⟨h1, h2⟩ => ⟨h1, h2, h2⟩) hcell ih
theorem text_len {t : Trm} (h : formM t = true) (hn : cntM t ≤ 200) : (bys (textM t)).size ≤ 100000 := by
  have h1 := sz_t t h
  have h2 : (textM t).length ≤ szP (prtM t) := join_le (prtM t)
  rw [show (bys (textM t)).size = (textM t).length by simp [bys, ByteArray.size]]
  omega
theorem valid_of {t : Trm} (h : formM t = true) (hn : cntM t ≤ 200) : validM t = true := by
  unfold validM
  rw [h, decide_eq_true (by omega)]
  rfl
/-- the boxes of the law -/
structure RwS (w : World) (c s : Array Value) (t : Trm) (AP : Option Addr) (ps : List Int) (x : World) : Prop where
  bel : Below w.heap.size w x
  k0 : Blk x w.heap.size 25 c
  k1 : Blk x (w.heap.size + 1) 35 s
  m0 : MAt x t c
  p0 : PthAt x AP ps
  glb : GlbZ w.heap.size x
theorem RwS.keep {w : World} {c s : Array Value} {t : Trm} {AP : Option Addr} {ps : List Int} {x x' : World} (h : RwS w c s t AP ps x) (hb : Below x.heap.size x x') : RwS w c s t AP ps x' :=
  ⟨h.bel.trans (hb.mono h.bel.size), _root_.Go.Proofs.YtpokelkneblafaaGreatDoor.keep hb h.k0, _root_.Go.Proofs.YtpokelkneblafaaGreatDoor.keep hb h.k1, h.m0.keep hb, h.p0.keep hb, h.glb.keep h.bel.size hb⟩
theorem RwS.start {w : World} {c s : Array Value} {t : Trm} {AP : Option Addr} {ps : List Int} (hG : GlbZ w.heap.size w) (hM : MAt w t c) (hP : PthAt w AP ps) : RwS w c s t AP ps ((w.alloc (.cells c 25)).alloc (.cells s 35)) := by
  have B1 := bel_alloc w (.cells c 25)
  have B2 := bel_alloc (w.alloc (.cells c 25)) (.cells s 35)
  have s1 : (w.alloc (.cells c 25)).heap.size = w.heap.size + 1 := by simp
  have hb := B1.trans (B2.mono B1.size)
  refine ⟨hb, _root_.Go.Proofs.YtpokelkneblafaaGreatDoor.keep B2 (Blk.new w _ c), ?_, hM.keep hb, hP.keep hb, hG.keep (Nat.le_refl _) hb⟩
  rw [← s1]
  exact Blk.new _ _ _
/-- a term in a box of its own -/
def BoxT (g : Nat) (t : Trm) (c : Array Value) (x : World) : Prop := Blk x g 25 c ∧ MAt x t c
theorem BoxT.keep {g : Nat} {t : Trm} {c : Array Value} {x x' : World} (h : BoxT g t c x) (hb : Below x.heap.size x x') : BoxT g t c x' := ⟨_root_.Go.Proofs.YtpokelkneblafaaGreatDoor.keep hb h.1, h.2.keep hb⟩
theorem BoxT.new {t : Trm} {c : Array Value} {x : World} (h : MAt x t c) : BoxT x.heap.size t c (x.alloc (.cells c 25)) := ⟨Blk.new _ _ _, h.keep (bel_alloc _ _)⟩
structure RwE (w : World) (c s : Array Value) (t : Trm) (AP : Option Addr) (ps : List Int) (t' : Trm) (g5 g6 g7 : Nat) (c5 c6 c7 : Array Value) (x : World) : Prop where
  rs : RwS w c s t AP ps x
  b5 : BoxT g5 t' c5 x
  b6 : BoxT g6 t c6 x
  b7 : BoxT g7 t' c7 x
theorem RwE.keep {w : World} {c s : Array Value} {t : Trm} {AP : Option Addr} {ps : List Int} {t' : Trm} {g5 g6 g7 : Nat} {c5 c6 c7 : Array Value} {x x' : World} (h : RwE w c s t AP ps t' g5 g6 g7 c5 c6 c7 x) (hb : Below x.heap.size x x') : RwE w c s t AP ps t' g5 g6 g7 c5 c6 c7 x' := ⟨h.rs.keep hb, h.b5.keep hb, h.b6.keep hb, h.b7.keep hb⟩
set_option maxRecDepth 100000 in
set_option maxHeartbeats 8000000 in
theorem renamed_walk (t : Trm) (c : Array Value) (AP : Option Addr) (cp : Nat) (ps : List Int) (pick : Int) (w : World) (hp0 : 0 ≤ pick) (hp1 : pick ≤ 255) (hcp : ps.length ≤ cp) (hcp2 : cp ≤ 9223372036854775807) (hG : GlbZ w.heap.size w) (hM : MAt w t c) (hP : PthAt w AP ps) :
    Calls Tryz.prog 4 #[.agg c, .agg #[.slice AP ps.length cp, .int .u8 pick]] w fun e w' => e = .returned (.bool true) ∧ Below w.heap.size w w' := by
  obtain ⟨A0, cap0, rfl, -⟩ := hM.form
  have S := Lib.hid (RwS.start (s := #[.slice AP ps.length cp, .int .u8 pick]) hG hM hP)
  have HPK := Lib.hid (And.intro hp0 hp1)
  have HCP := Lib.hid (And.intro hcp hcp2)
  clear hG hM hP
  go_enter Tryz.func4, Tryz.ntmps4
  go_upto_region 1 with (fail)
  generalize (w.alloc (.cells (trmC t.kind t.nam t.vr A0 t.args.length cap0 t.form) 25)).alloc (.cells #[.slice AP ps.length cp, .int .u8 pick] 35) = w1 at *
  go_wp2_with fail
  refine (awake_any w.heap.size w1 S.out.glb.glb S.out.bel.size).mono ?_
  rintro e w2 ⟨rfl, hb⟩
  replace S := Lib.hid (S.out.keep hb)
  clear hb
  have k0 := fun i => S.out.k0.cell i
  go_wp2_with fail
  refine (few_any t _ w2 S.out.m0).mono ?_
  rintro e w3 ⟨b1, rfl, hf1, hb⟩
  replace S := Lib.hid (S.out.keep hb)
  clear hb k0
  cases b1
  · go_wp2_with fail
    go_ret
    exact ⟨rfl, S.out.bel⟩
  have HC1 := Lib.hid (hf1 rfl)
  clear hf1
  have k0 := fun i => S.out.k0.cell i
  go_wp2_with fail
  refine (rvalid_any t _ w3 (by have := HC1.out; omega) S.out.m0).mono ?_
  rintro e w4 ⟨rfl, hb⟩
  replace S := Lib.hid (S.out.keep hb)
  clear hb k0
  cases hv1 : validM t
  · go_wp2_with fail
    go_ret
    exact ⟨rfl, S.out.bel⟩
  have HV := Lib.hid hv1
  have HF := Lib.hid (show formM t = true by unfold validM at hv1; rw [Bool.and_eq_true] at hv1; exact hv1.1)
  clear hv1
  have s0 := S.out.k1.cell 0
  have s1 := S.out.k1.cell 1
  have k0 := fun i => S.out.k0.cell i
  by_cases hlen : (20 : Int) < (ps.length : Int)
  · go_wp2_with fail
    go_ret
    exact ⟨rfl, S.out.bel⟩
  have hwp : IntKind.i64.wrap pick = pick := IntWalk.i64_in _ (by omega)
  have HLN := Lib.hid hlen
  go_wp2_with fail
  refine (rename_ok ps (fun b => b < w4.heap.size) t _ AP cp pick w4 HC1.out HF.out HPK.out.1 HPK.out.2 (by omega) HCP.out.1 HCP.out.2 (fun b hb => hb) (mat_tm S.out.m0) S.out.p0).mono ?_
  rintro e w5 ⟨c5, t', rfl, hT, hR, hb⟩
  replace S := Lib.hid (S.out.keep hb)
  have HRN := Lib.hid hR
  have HC2 := Lib.hid (show cntM t' ≤ 200 by rw [hR.cnt HF.out]; exact HC1.out)
  have HV2 := Lib.hid (valid_of hR.2 (by rw [hR.cnt HF.out]; exact HC1.out))
  obtain ⟨k5, a5, v5, A5, n5, p5, f5, rfl⟩ := hT.ext
  have HX5 := Lib.hid (BoxT.new hT.mat)
  have hba := bel_alloc w5 (.cells #[.int .i64 k5, .string a5, .string v5, .slice A5 n5 p5, .string f5] 25)
  replace S := Lib.hid (S.out.keep hba)
  clear hb hba hT hR s0 s1 k0 hwp hlen
  go_upto_region 6 with (fail)
  generalize w5.alloc (.cells #[.int .i64 k5, .string a5, .string v5, .slice A5 n5 p5, .string f5] 25) = w6 at *
  generalize w5.heap.size = g5 at *
  have HT1 := Lib.hid (show textV t = .tuple #[.string (bys (textM t)), .int .i64 0] by unfold textV; rw [if_pos HV.out])
  have HT2 := Lib.hid (show textV t' = .tuple #[.string (bys (textM t')), .int .i64 0] by unfold textV; rw [if_pos HV2.out])
  have HP1 := Lib.hid (fun w hG h0 => parseP_any w.heap.size (bys (textM t)) w hG h0 (text_len HF.out HC1.out))
  have HPV1 := Lib.hid (show ∀ (B0 : Nat) (wx : World), GlbZ B0 wx → B0 ≤ wx.heap.size → Calls Tryz.prog 6 #[.string (bys (textM t))] wx (ParsePost (some t) wx) from fun B0 wx hG h0 => by
    have h := parseP_any B0 (bys (textM t)) wx hG h0 (text_len HF.out HC1.out)
    rw [bys_data, parseP_valid HV.out] at h
    exact h)
  have HPV2 := Lib.hid (show ∀ (B0 : Nat) (wx : World), GlbZ B0 wx → B0 ≤ wx.heap.size → Calls Tryz.prog 6 #[.string (bys (textM t'))] wx (ParsePost (some t') wx) from fun B0 wx hG h0 => by
    have h := parseP_any B0 (bys (textM t')) wx hG h0 (text_len HRN.out.2 HC2.out)
    rw [bys_data, parseP_valid HV2.out] at h
    exact h)
  clear HP1
  generalize bys (textM t) = x1 at *
  generalize bys (textM t') = x2 at *
  have k0 := fun i => S.out.k0.cell i
  go_wp2_with fail
  refine (text_any w.heap.size t _ w6 S.out.glb.glb S.out.bel.size S.out.m0).mono ?_
  rw [HT1.out]
  rintro e w7 ⟨rfl, hb⟩
  replace S := Lib.hid (S.out.keep hb)
  replace HX5 := Lib.hid (HX5.out.keep hb)
  clear hb k0
  have k5 := fun i => HX5.out.1.cell i
  go_wp2_with fail
  refine (text_any w.heap.size t' _ w7 S.out.glb.glb S.out.bel.size HX5.out.2).mono ?_
  rw [HT2.out]
  rintro e w8 ⟨rfl, hb⟩
  replace S := Lib.hid (S.out.keep hb)
  replace HX5 := Lib.hid (HX5.out.keep hb)
  clear hb k5
  go_wp2_with fail
  refine (HPV1.out w.heap.size w8 S.out.glb S.out.bel.size).mono ?_
  rintro e w9 ⟨c6, rfl, hT, hb⟩
  have hT : TmAt (fun b => w8.heap.size ≤ b) w9 t c6 := hT
  obtain ⟨k6, a6, v6, A6, n6, p6, f6, rfl⟩ := hT.ext
  have HX6 := Lib.hid (BoxT.new hT.mat)
  have hba := bel_alloc w9 (.cells #[.int .i64 k6, .string a6, .string v6, .slice A6 n6 p6, .string f6] 25)
  replace S := Lib.hid ((S.out.keep hb).keep hba)
  replace HX5 := Lib.hid ((HX5.out.keep hb).keep hba)
  clear hb hba hT
  go_upto_region 9 with (fail)
  generalize w9.alloc (.cells #[.int .i64 k6, .string a6, .string v6, .slice A6 n6 p6, .string f6] 25) = w10 at *
  generalize w9.heap.size = g6 at *
  go_wp2_with fail
  refine (HPV2.out w.heap.size w10 S.out.glb S.out.bel.size).mono ?_
  rintro e w11 ⟨c7, rfl, hT, hb⟩
  have hT : TmAt (fun b => w10.heap.size ≤ b) w11 t' c7 := hT
  obtain ⟨k7, a7, v7, A7, n7, p7, f7, rfl⟩ := hT.ext
  have HX7 := Lib.hid (BoxT.new hT.mat)
  have hba := bel_alloc w11 (.cells #[.int .i64 k7, .string a7, .string v7, .slice A7 n7 p7, .string f7] 25)
  replace S := Lib.hid ((S.out.keep hb).keep hba)
  replace HX5 := Lib.hid ((HX5.out.keep hb).keep hba)
  replace HX6 := Lib.hid ((HX6.out.keep hb).keep hba)
  clear hb hba hT
  go_upto_region 10 with (fail)
  generalize w11.alloc (.cells #[.int .i64 k7, .string a7, .string v7, .slice A7 n7 p7, .string f7] 25) = w12 at *
  generalize w11.heap.size = g7 at *
  have SE := Lib.hid (RwE.mk S.out HX5.out HX6.out HX7.out)
  have HB1 := sz_t t HF.out
  have HB2 := sz_t t' HRN.out.2
  have HB3 := len_szP (prtM t)
  have HB4 := len_szP (prtM t')
  have HB5 := exM_le t
  have HB6 := exM_le t'
  have HB7 := HC1.out
  have HB8 := HC2.out
  have HDW := HRN.out.words HF.out
  have HW1 := Lib.hid (fun (c : Array Value) (w0 : World) hG h0 hM => words_any w.heap.size t c w0 hG h0 HV.out hM)
  have HW2 := Lib.hid (fun (c : Array Value) (w0 : World) hG h0 hM => words_any w.heap.size t' c w0 hG h0 HV2.out hM)
  have HE1 := Lib.hid (fun (c : Array Value) (w0 : World) hM => extra_any 200 t c w0 HC1.out (by omega) HF.out hM)
  have HE2 := Lib.hid (fun (c : Array Value) (w0 : World) hM => extra_any 200 t' c w0 HC2.out (by omega) HRN.out.2 hM)
  obtain ⟨dd, hd1, hd2⟩ : ∃ dd : Int, IntKind.i64.wrap (((prtM t).length : Int) - (exM t : Int)) = dd ∧ IntKind.i64.wrap (((prtM t').length : Int) - (exM t' : Int)) = dd := ⟨((prtM t).length : Int) - (exM t : Int), IntWalk.i64_in _ (by omega), by rw [HDW]; exact IntWalk.i64_in _ (by omega)⟩
  have HD1 := Lib.hid hd1
  have HD2 := Lib.hid hd2
  clear hd1 hd2
  clear HB1 HB2 HB3 HB4 HB5 HB6 HB7 HB8 HDW S HX5 HX6 HX7
  generalize ((prtM t).length : Int) = l1 at *
  generalize (exM t : Int) = x1' at *
  generalize ((prtM t').length : Int) = l2 at *
  generalize (exM t' : Int) = x2' at *
  refine region_list (by kernel_rfl) _ [.int .i64 0, .bool true, .bool true, .int .i64 0, .bool true, .bool true, .bool true, .int .i64 0, .bool true, .bool true, .bool true, .int .i64 0, .bool true, .bool true, .bool true, .agg #[.int .i64 k6, .string a6, .string v6, .slice A6 n6 p6, .string f6], .agg #[.int .i64 k7, .string a7, .string v7, .slice A7 n7 p7, .string f7], .bool true, .bool true, .bool true, .agg #[.int .i64 t.kind, .string t.nam, .string t.vr, .slice A0 t.args.length cap0, .string t.form], .int .i64 l1, .agg #[.int .i64 t.kind, .string t.nam, .string t.vr, .slice A0 t.args.length cap0, .string t.form], .int .i64 x1', .int .i64 dd, .agg #[.int .i64 k5, .string a5, .string v5, .slice A5 n5 p5, .string f5], .int .i64 l2, .agg #[.int .i64 k5, .string a5, .string v5, .slice A5 n5 p5, .string f5], .int .i64 x2', .int .i64 dd, .bool true, .bool true, .bool true] [true, true, true, true, true, true, true, true, true, true, true, true, true, true, true, true, true, true, true, true, true, true, true, true, true, true, true, true, true, true, true, true, true] (fun wq => RwE w #[.int .i64 t.kind, .string t.nam, .string t.vr, .slice A0 t.args.length cap0, .string t.form] #[.slice AP ps.length cp, .int .u8 pick] t AP ps t' g5 g6 g7 #[.int .i64 k5, .string a5, .string v5, .slice A5 n5 p5, .string f5] #[.int .i64 k6, .string a6, .string v6, .slice A6 n6 p6, .string f6] #[.int .i64 k7, .string a7, .string v7, .slice A7 n7 p7, .string f7] wq) (by kernel_rfl) (by simp [fin, finOn, dstAt, List.range, List.range.loop, Act.put]; rfl) (by kernel_rfl) (SE.out.keep (below_drew (Below.refl _ _))) ?_ ?_
  · refine ⟨fun wq hI => ?_, fun wq hI => ?_, fun wq hI => ?_, fun wq hI => ?_, fun wq hI => ?_, fun wq hI => ?_, fun wq hI => ?_, fun wq hI => ?_, fun wq hI => ?_, fun wq hI => ?_, fun wq hI => ?_, fun wq hI => ?_, fun wq hI => ?_, fun wq hI => ?_, fun wq hI => ?_, fun wq hI => ?_, fun wq hI => ?_, fun wq hI => ?_, fun wq hI => ?_, fun wq hI => ?_, fun wq hI => ?_, fun wq hI => ?_, fun wq hI => ?_, fun wq hI => ?_, fun wq hI => ?_, fun wq hI => ?_, fun wq hI => ?_, fun wq hI => ?_, fun wq hI => ?_, fun wq hI => ?_, fun wq hI => ?_, fun wq hI => ?_, fun wq hI => ?_, trivial⟩
    · exact Gives.value (v := .int .i64 0) (w' := wq) (by kernel_rfl) ⟨rfl, hI⟩
    · exact Gives.value (v := .bool true) (w' := wq) (by simp [go_sem]) ⟨rfl, hI⟩
    · exact Gives.value (v := .bool true) (w' := wq) (by kernel_rfl) ⟨rfl, hI⟩
    · exact Gives.value (v := .int .i64 0) (w' := wq) (by kernel_rfl) ⟨rfl, hI⟩
    · exact Gives.value (v := .bool true) (w' := wq) (by simp [go_sem]) ⟨rfl, hI⟩
    · exact Gives.value (v := .bool true) (w' := wq) (by kernel_rfl) ⟨rfl, hI⟩
    · exact Gives.value (v := .bool true) (w' := wq) (by kernel_rfl) ⟨rfl, hI⟩
    · exact Gives.value (v := .int .i64 0) (w' := wq) (by kernel_rfl) ⟨rfl, hI⟩
    · exact Gives.value (v := .bool true) (w' := wq) (by simp [go_sem]) ⟨rfl, hI⟩
    · exact Gives.value (v := .bool true) (w' := wq) (by kernel_rfl) ⟨rfl, hI⟩
    · exact Gives.value (v := .bool true) (w' := wq) (by kernel_rfl) ⟨rfl, hI⟩
    · exact Gives.value (v := .int .i64 0) (w' := wq) (by kernel_rfl) ⟨rfl, hI⟩
    · exact Gives.value (v := .bool true) (w' := wq) (by simp [go_sem]) ⟨rfl, hI⟩
    · exact Gives.value (v := .bool true) (w' := wq) (by kernel_rfl) ⟨rfl, hI⟩
    · exact Gives.value (v := .bool true) (w' := wq) (by kernel_rfl) ⟨rfl, hI⟩
    · have d0 := hI.b6.1.cell 0
      have d1 := hI.b6.1.cell 1
      have d2 := hI.b6.1.cell 2
      have d3 := hI.b6.1.cell 3
      have d4 := hI.b6.1.cell 4
      exact Gives.value (v := .agg #[.int .i64 k6, .string a6, .string v6, .slice A6 n6 p6, .string f6]) (w' := wq) (by simp [go_sem, d0, d1, d2, d3, d4]) ⟨rfl, hI⟩
    · have d0 := hI.b7.1.cell 0
      have d1 := hI.b7.1.cell 1
      have d2 := hI.b7.1.cell 2
      have d3 := hI.b7.1.cell 3
      have d4 := hI.b7.1.cell 4
      exact Gives.value (v := .agg #[.int .i64 k7, .string a7, .string v7, .slice A7 n7 p7, .string f7]) (w' := wq) (by simp [go_sem, d0, d1, d2, d3, d4]) ⟨rfl, hI⟩
    · refine Gives.call (f := 13) (args := #[.agg #[.int .i64 k6, .string a6, .string v6, .slice A6 n6 p6, .string f6], .agg #[.int .i64 k7, .string a7, .string v7, .slice A7 n7 p7, .string f7]]) (w' := wq) (by kernel_rfl) ((alpha_any t t' _ _ wq HV.out HV2.out HRN.out.1 hI.b6.2 hI.b7.2).mono ?_)
      rintro e wz ⟨rfl, hbz⟩
      exact ⟨_, rfl, rfl, hI.keep hbz⟩
    · exact Gives.value (v := .bool true) (w' := wq) (by kernel_rfl) ⟨rfl, hI⟩
    · exact Gives.value (v := .bool true) (w' := wq) (by kernel_rfl) ⟨rfl, hI⟩
    · have d0 := hI.rs.k0.cell 0
      have d1 := hI.rs.k0.cell 1
      have d2 := hI.rs.k0.cell 2
      have d3 := hI.rs.k0.cell 3
      have d4 := hI.rs.k0.cell 4
      exact Gives.value (v := .agg #[.int .i64 t.kind, .string t.nam, .string t.vr, .slice A0 t.args.length cap0, .string t.form]) (w' := wq) (by simp [go_sem, d0, d1, d2, d3, d4]) ⟨rfl, hI⟩
    · refine Gives.call (f := 14) (args := #[.agg #[.int .i64 t.kind, .string t.nam, .string t.vr, .slice A0 t.args.length cap0, .string t.form]]) (w' := wq) (by kernel_rfl) ((HW1.out _ wq hI.rs.glb.glb hI.rs.bel.size hI.rs.m0).mono ?_)
      rintro e wz ⟨rfl, hbz⟩
      exact ⟨_, rfl, rfl, hI.keep hbz⟩
    · have d0 := hI.rs.k0.cell 0
      have d1 := hI.rs.k0.cell 1
      have d2 := hI.rs.k0.cell 2
      have d3 := hI.rs.k0.cell 3
      have d4 := hI.rs.k0.cell 4
      exact Gives.value (v := .agg #[.int .i64 t.kind, .string t.nam, .string t.vr, .slice A0 t.args.length cap0, .string t.form]) (w' := wq) (by simp [go_sem, d0, d1, d2, d3, d4]) ⟨rfl, hI⟩
    · refine Gives.call (f := 15) (args := #[.agg #[.int .i64 t.kind, .string t.nam, .string t.vr, .slice A0 t.args.length cap0, .string t.form]]) (w' := wq) (by kernel_rfl) ((HE1.out _ wq hI.rs.m0).mono ?_)
      rintro e wz ⟨rfl, hbz⟩
      exact ⟨_, rfl, rfl, hI.keep hbz⟩
    · have cJ := HD1.out
      exact Gives.value (v := .int .i64 dd) (w' := wq) (by simp [go_sem, cJ]) ⟨rfl, hI⟩
    · have d0 := hI.b5.1.cell 0
      have d1 := hI.b5.1.cell 1
      have d2 := hI.b5.1.cell 2
      have d3 := hI.b5.1.cell 3
      have d4 := hI.b5.1.cell 4
      exact Gives.value (v := .agg #[.int .i64 k5, .string a5, .string v5, .slice A5 n5 p5, .string f5]) (w' := wq) (by simp [go_sem, d0, d1, d2, d3, d4]) ⟨rfl, hI⟩
    · refine Gives.call (f := 14) (args := #[.agg #[.int .i64 k5, .string a5, .string v5, .slice A5 n5 p5, .string f5]]) (w' := wq) (by kernel_rfl) ((HW2.out _ wq hI.rs.glb.glb hI.rs.bel.size hI.b5.2).mono ?_)
      rintro e wz ⟨rfl, hbz⟩
      exact ⟨_, rfl, rfl, hI.keep hbz⟩
    · have d0 := hI.b5.1.cell 0
      have d1 := hI.b5.1.cell 1
      have d2 := hI.b5.1.cell 2
      have d3 := hI.b5.1.cell 3
      have d4 := hI.b5.1.cell 4
      exact Gives.value (v := .agg #[.int .i64 k5, .string a5, .string v5, .slice A5 n5 p5, .string f5]) (w' := wq) (by simp [go_sem, d0, d1, d2, d3, d4]) ⟨rfl, hI⟩
    · refine Gives.call (f := 15) (args := #[.agg #[.int .i64 k5, .string a5, .string v5, .slice A5 n5 p5, .string f5]]) (w' := wq) (by kernel_rfl) ((HE2.out _ wq hI.b5.2).mono ?_)
      rintro e wz ⟨rfl, hbz⟩
      exact ⟨_, rfl, rfl, hI.keep hbz⟩
    · have cJ := HD2.out
      exact Gives.value (v := .int .i64 dd) (w' := wq) (by simp [go_sem, cJ]) ⟨rfl, hI⟩
    · exact Gives.value (v := .bool true) (w' := wq) (by simp [go_sem]) ⟨rfl, hI⟩
    · exact Gives.value (v := .bool true) (w' := wq) (by kernel_rfl) ⟨rfl, hI⟩
    · exact Gives.value (v := .bool true) (w' := wq) (by kernel_rfl) ⟨rfl, hI⟩
  · intro wq hI
    have HB := Lib.hid hI.rs.bel
    clear hI SE
    generalize wq = w9 at *
    go_wp2_with fail
    go_ret
    exact ⟨rfl, HB.out⟩
end Go.Proofs.YtpokelkneblafaaGreatDoor
