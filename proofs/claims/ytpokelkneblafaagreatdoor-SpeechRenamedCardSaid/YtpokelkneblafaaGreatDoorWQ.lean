/- The number of the parts of a spoken text: the program's walk over the parts with a counter. -/
import Derived.Test.YtpokelkneblafaaGreatDoorPC
namespace Go.Proofs.YtpokelkneblafaaGreatDoor.Wds
open Go.RowKit
open Go.Proofs.YtpokelkneblafaaGreatDoor
abbrev sinkV (gb _b : Nat) : Value := .func (.func 32) #[] #[.pointer (some ⟨gb, 0, none⟩)]
/-- what the counter holds -/
structure TxtAt (B b gb : Nat) (l : List (List UInt8)) (w : World) : Prop where
  lo : B ≤ b
  blt : b < w.heap.size
  lg : B ≤ gb
  flag : Blk w gb 3 #[.int .i64 (l.length : Int)]
theorem TxtAt.keep {B b gb : Nat} {l : List (List UInt8)} {w w' : World} (h : TxtAt B b gb l w) (hb : Below w.heap.size w w') : TxtAt B b gb l w' :=
  ⟨h.lo, Nat.lt_of_lt_of_le h.blt hb.size, h.lg, _root_.Go.Proofs.YtpokelkneblafaaGreatDoor.keep hb h.flag⟩
/-- behind a part -/
def TookP (B b gb : Nat) (l : List (List UInt8)) (w : World) (e : Ending) (w' : World) : Prop := e = .returned (.tuple #[]) ∧ TxtAt B b gb l w' ∧ Below B w w' ∧ KeptX b gb w w'
set_option maxRecDepth 100000 in
set_option maxHeartbeats 800000 in
theorem sink_any (B b gb : Nat) (l : List (List UInt8)) (s : ByteArray) (w : World) (hT : TxtAt B b gb l w) (hl : l.length ≤ 1000000000000) :
    Calls Tryz.prog 32 #[.string s, .pointer (some ⟨gb, 0, none⟩)] w (TookP B b gb (l ++ [s.data.toList]) w) := by
  obtain ⟨h1, h2, h3, hK⟩ := hT
  have HK := Lib.hid hK
  have HLG := Lib.hid h3
  have HLO := Lib.hid (And.intro h1 h2)
  have c0 := hK.cell 0
  have f0 := hK.frozen 0
  clear hK h1 h2 h3
  go_enter Tryz.func32, Tryz.ntmps32
  go_wp2_with fail
  refine bodyPost_ret (v := .tuple #[]) (by simp [results, Tryz.results32, go_sem]) rfl ?_
  refine ⟨rfl, ⟨HLO.out.1, ?_, HLG.out, ?_⟩, (Below.refl _ _).setCell (p := ⟨gb, 0, none⟩) HLG.out _, KeptX.flag _ _⟩
  · have := HLO.out.2
    simpa [World.setCell] using this
  · have := HK.out.set_ 0 (.int .i64 ((l ++ [s.data.toList]).length : Int))
    simpa using this
set_option maxRecDepth 100000 in
set_option maxHeartbeats 1600000 in
theorem pname_any (B0 B b gb gp : Nat) (l : List (List UInt8)) (s : ByteArray) (w : World) (hG : Glb B0 w) (hB0 : B0 ≤ B) (hT : TxtAt B b gb l w) (hP : Blk w gp 58 #[sinkV gb b]) (hp1 : gp ≠ b) (hp2 : gp ≠ gb) (hlen : szP l ≤ 100000000000) (hs : s.size ≤ 9223372036854775807) :
    Calls Tryz.prog 43 #[.string s, .pointer (some ⟨gp, 0, none⟩)] w (TookP B b gb (l ++ spokenL s.data.toList) w) := by
  have hBw : B ≤ w.heap.size := Nat.le_of_lt (Nat.lt_of_le_of_lt hT.lo hT.blt)
  have hbw := hT.blt
  have hgw := hT.flag.lt
  have HN := Lib.hid (name_small s)
  have HSP := Lib.hid (show splitL 32 (nameS s).data.toList = spokenL s.data.toList by unfold nameS; rw [bys_data, spoken_split])
  have HSZ := Lib.hid (spoken_sz s.data.toList)
  have HG := Lib.hid hG
  have HT := Lib.hid hT
  have HP := Lib.hid hP
  have HX := Lib.hid (And.intro hp1 hp2)
  have HL := Lib.hid hlen
  have HB := Lib.hid hBw
  have HB0 := Lib.hid hB0
  have HBG := Lib.hid (And.intro hbw hgw)
  have HNA := Lib.hid (name_any s w hs)
  clear hG hT hP hp1 hp2 hlen hBw hB0 hbw hgw
  generalize nameS s = ns at *
  generalize spokenL s.data.toList = ps at *
  go_enter Tryz.func43, Tryz.ntmps43
  go_wp2_with fail
  refine HNA.out.mono ?_
  rintro e w1 ⟨rfl, hb⟩
  have B1 := Lib.hid hb
  clear hb
  have HS := Lib.hid (psplit_any ns B0 w1 (HG.out.keep (Nat.le_trans HB0.out HB.out) B1.out) (by have := HN.out; omega))
  rw [HSP.out] at HS
  go_wp2_with fail
  refine HS.out.mono ?_
  rintro e w2 ⟨rfl, hb, hK⟩
  have B2 := Lib.hid (B1.out.trans (hb.mono B1.out.size))
  have KS := Lib.hid hK
  have hsz := B1.out.size
  have HQ1 := Lib.hid (show w1.heap.size ≠ b by have := HBG.out.1; omega)
  have HQ2 := Lib.hid (show w1.heap.size ≠ gb by have := HBG.out.2; omega)
  have T2 := Lib.hid (HT.out.keep B2.out)
  have P2 := Lib.hid (keep B2.out HP.out)
  have X2 := Lib.hid (KeptX.below (b := b) (gb := gb) B2.out)
  have D2 := Lib.hid (B2.out.mono HB.out)
  have hpl : ps.length ≤ 1000 := by
    have h1 := HSZ.out
    have := len_szP ps
    omega
  clear hb hK hsz HS HNA
  generalize w1.heap.size = gs at *
  go_wp2_with fail
  go_loopw [9] (fun i wr => ∃ j : Nat, j ≤ ps.length ∧ i = .int .i64 j ∧ Hid (TxtAt B b gb (l ++ ps.take j) wr) ∧ Hid (Below B w wr) ∧ Hid (KeptX b gb w wr) ∧ Hid (Blk wr gp 58 #[sinkV gb b]) ∧ Hid (Blk wr gs 9 (ps.map (fun p => Value.string (bys p))).toArray)) (fun i _ => ps.length - (intOf i).toNat)
  case atStart => exact ⟨0, by omega, rfl, (by rw [List.take_zero, List.append_nil]; exact T2.out), D2, X2, P2, KS⟩
  case round =>
    clear T2 D2 X2 P2 KS
    obtain ⟨j, hj, rfl, T2, D2, X2, P2, KS⟩ := hrel
    by_cases hlt : j < ps.length
    · obtain ⟨x, hx⟩ : ∃ x, ps[j]? = some x := ⟨_, List.getElem?_eq_getElem hlt⟩
      have c0 := KS.out.cell j
      rw [show ((ps.map (fun p => Value.string (bys p))).toArray)[j]? = some (.string (bys x)) by simp [hx]] at c0
      have c1 := P2.out.cell 0
      have hm := szP_mem hx
      have HTK := Lib.hid (show (l ++ ps.take j) ++ [(bys x).data.toList] = l ++ ps.take (j + 1) by rw [bys_data, List.append_assoc, List.take_add_one, hx]; rfl)
      have HLN := Lib.hid (show (Lib.join (l ++ ps.take j) [32]).length + (bys x).size + 1 ≤ 1000000000000 by
        have h1 := join_le (l ++ ps.take j)
        rw [szP_app] at h1
        have h2 := HL.out
        have h3 := HSZ.out
        have h4 : (bys x).size = x.length := by simp [bys, ByteArray.size]
        omega)
      clear hx hm
      go_wp2_with fail
      refine (sink_any B b gb (l ++ ps.take j) (bys x) wr T2.out (by have h1 := len_szP l; have h2 := HL.out; rw [List.length_append, List.length_take]; omega)).mono ?_
      rintro e w4 ⟨rfl, hT4, hb4, hk4⟩
      rw [HTK.out] at hT4
      have T4 := Lib.hid hT4
      have D4 := Lib.hid (D2.out.trans hb4)
      have X4 := Lib.hid (X2.out.trans hk4)
      have P4 := Lib.hid (hk4.blk P2.out (by decide) HX.out.1 HX.out.2)
      have K4 := Lib.hid (hk4.blk KS.out (by decide) HQ1.out HQ2.out)
      clear hT4 hb4 hk4 c0 c1
      go_wp2_with fail
      go_roundw
      case rel => exact ⟨j + 1, by omega, by go_num, T4, D4, X4, P4, K4⟩
      case measure => simp [intOf]; omega
    · obtain rfl : j = ps.length := by omega
      rw [List.take_length] at T2
      go_wp2_with fail
      exact bodyPost_ret (v := .tuple #[]) (by simp [results, Tryz.results43, go_sem]) rfl ⟨rfl, T2.out, D2.out, X2.out⟩
/-- where the walk of a term's parts stands -/
structure PSt (B0 B b gb gp : Nat) (w0 w : World) (l : List (List UInt8)) (wr : World) : Prop where
  b0 : B0 ≤ B
  ob : w0.heap.size ≤ B
  ne1 : gp ≠ b
  ne2 : gp ≠ gb
  glb : Glb B0 wr
  txt : TxtAt B b gb l wr
  bel : Below B w wr
  kpt : KeptX b gb w wr
  cell : Blk wr gp 58 #[sinkV gb b]
  old : Below w0.heap.size w0 wr
section
variable {B0 B b gb gp : Nat} {w0 w wr : World} {l : List (List UInt8)}
theorem PSt.size (h : PSt B0 B b gb gp w0 w l wr) : B ≤ wr.heap.size := Nat.le_of_lt (Nat.lt_of_le_of_lt h.txt.lo h.txt.blt)
theorem PSt.next (h : PSt B0 B b gb gp w0 w l wr) {l' : List (List UInt8)} {e : Ending} {w' : World} (hT : TookP B b gb l' wr e w') : e = .returned (.tuple #[]) ∧ PSt B0 B b gb gp w0 w l' w' := by
  obtain ⟨he, h1, h2, h3⟩ := hT
  exact ⟨he, ⟨h.b0, h.ob, h.ne1, h.ne2, h.glb.keep h.b0 h2, h1, h.bel.trans h2, h.kpt.trans h3, h3.blk h.cell (by decide) h.ne1 h.ne2, h.old.trans (h2.mono h.ob)⟩⟩
theorem PSt.keep {w' : World} (h : PSt B0 B b gb gp w0 w l wr) (hb : Below wr.heap.size wr w') : PSt B0 B b gb gp w0 w l w' :=
  ⟨h.b0, h.ob, h.ne1, h.ne2, h.glb.keep (Nat.le_trans h.b0 h.size) hb, h.txt.keep hb, h.bel.trans (hb.mono h.size), h.kpt.trans (KeptX.below hb), _root_.Go.Proofs.YtpokelkneblafaaGreatDoor.keep hb h.cell, h.old.trans (hb.mono (Nat.le_trans h.ob h.size))⟩
theorem PSt.drew (h : PSt B0 B b gb gp w0 w l wr) : PSt B0 B b gb gp w0 w l wr.drew := h.keep (below_drew (Below.refl _ _))
theorem PSt.took (h : PSt B0 B b gb gp w0 w l wr) : TookP B b gb l w (.returned (.tuple #[])) wr := ⟨rfl, h.txt, h.bel, h.kpt⟩
theorem PSt.take (h : PSt B0 B b gb gp w0 w l wr) (s : ByteArray) (hlen : szP l + s.size + 1 ≤ 1000000000000) : Calls Tryz.prog 32 #[.string s, .pointer (some ⟨gb, 0, none⟩)] wr fun e w' => e = .returned (.tuple #[]) ∧ PSt B0 B b gb gp w0 w (l ++ [s.data.toList]) w' :=
  (sink_any B b gb l s wr h.txt (by have := len_szP l; omega)).mono fun _ _ hT => h.next hT
theorem PSt.name (h : PSt B0 B b gb gp w0 w l wr) (s : ByteArray) (hlen : szP l ≤ 100000000000) (hs : s.size ≤ 9223372036854775807) : Calls Tryz.prog 43 #[.string s, .pointer (some ⟨gp, 0, none⟩)] wr fun e w' => e = .returned (.tuple #[]) ∧ PSt B0 B b gb gp w0 w (l ++ spokenL s.data.toList) w' :=
  (pname_any B0 B b gb gp l s wr h.glb h.b0 h.txt h.cell h.ne1 h.ne2 hlen hs).mono fun _ _ hT => h.next hT
theorem PSt.start {B0 B b gb : Nat} {w0 w : World} {l : List (List UInt8)} (hG : Glb B0 w) (hB0 : B0 ≤ B) (hob : w0.heap.size ≤ B) (hT : TxtAt B b gb l w) (ho : Below w0.heap.size w0 w) : PSt B0 B b gb w.heap.size w0 w l (w.alloc (.cells #[sinkV gb b] 58)) := by
  have hBw : B ≤ w.heap.size := Nat.le_of_lt (Nat.lt_of_le_of_lt hT.lo hT.blt)
  have hb := bel_alloc w (.cells #[sinkV gb b] 58)
  exact ⟨hB0, hob, Nat.ne_of_gt hT.blt, Nat.ne_of_gt hT.flag.lt, hG.keep (Nat.le_trans hB0 hBw) hb, hT.keep hb, hb.mono hBw, KeptX.below hb, Blk.new _ _ _, ho.trans (hb.mono (Nat.le_trans hob hBw))⟩
end
set_option maxRecDepth 100000 in
set_option maxHeartbeats 1600000 in
theorem parts_num (B0 B b gb : Nat) (l : List (List UInt8)) (a v f : ByteArray) (ts : List Trm) (p : Addr) (A : Option Addr) (cap : Nat) (w0 w : World) (hG : Glb B0 w) (hB0 : B0 ≤ B) (hob : w0.heap.size ≤ B) (hT : TxtAt B b gb l w) (ho : Below w0.heap.size w0 w) (hP : PtM w0 p (.mk 1 a v f ts) A cap) (hlen : szP l + szP (prtM (.mk 1 a v f ts)) ≤ 100000000000) :
    Calls Tryz.prog 20 #[.pointer (some p), sinkV gb b] w (TookP B b gb (l ++ prtM (.mk 1 a v f ts)) w) := by
  have HE := Lib.hid (show prtM (.mk 1 a v f ts) = [a.data.toList] by rw [prtM]; rfl)
  rw [HE.out] at hlen
  rw [HE.out]
  have HL := Lib.hid (show szP l + a.size + 1 ≤ 1000000000000 by simp [szP] at hlen; unfold szP; omega)
  have S0 := Lib.hid (PSt.start hG hB0 hob hT ho)
  have HP := Lib.hid (hP.keep S0.out.old)
  clear hP hG hT ho hlen
  obtain ⟨-, c0, c1, -, -, -, -⟩ := HP.out
  dsimp only [Trm.kind, Trm.nam] at c0 c1
  have k0 := S0.out.cell.cell 0
  go_enter Tryz.func20, Tryz.ntmps20
  go_wp2_with fail
  generalize w.alloc (.cells #[sinkV gb b] 58) = w1 at *
  go_region_with (go_at_call 32; refine (S0.out.drew.take a HL.out).mono ?_; rintro e w2 ⟨rfl, hS⟩; have S1 := Lib.hid hS)
  all_goals
    go_wp2_with fail
    exact bodyPost_ret (v := .tuple #[]) (by simp [results, Tryz.results20, go_sem]) rfl S1.out.took
set_option maxRecDepth 100000 in
set_option maxHeartbeats 1600000 in
theorem parts_var (B0 B b gb : Nat) (l : List (List UInt8)) (a v f : ByteArray) (ts : List Trm) (p : Addr) (A : Option Addr) (cap : Nat) (w0 w : World) (hG : Glb B0 w) (hB0 : B0 ≤ B) (hob : w0.heap.size ≤ B) (hT : TxtAt B b gb l w) (ho : Below w0.heap.size w0 w) (hP : PtM w0 p (.mk 2 a v f ts) A cap) (hlen : szP l + szP (prtM (.mk 2 a v f ts)) ≤ 100000000000) :
    Calls Tryz.prog 20 #[.pointer (some p), sinkV gb b] w (TookP B b gb (l ++ prtM (.mk 2 a v f ts)) w) := by
  have HE := Lib.hid (show prtM (.mk 2 a v f ts) = spokenL a.data.toList by rw [prtM]; rfl)
  rw [HE.out] at hlen
  rw [HE.out]
  have HL := Lib.hid (show szP l ≤ 100000000000 by omega)
  have HA := Lib.hid (show a.size ≤ 9223372036854775807 from by obtain ⟨-, -, -, -, -, -, h, -⟩ := hP; exact h)
  have S0 := Lib.hid (PSt.start hG hB0 hob hT ho)
  have HP := Lib.hid (hP.keep S0.out.old)
  clear hP hG hT ho hlen
  obtain ⟨-, c0, c1, -, -, -, -⟩ := HP.out
  dsimp only [Trm.kind, Trm.nam] at c0 c1
  have k0 := S0.out.cell.cell 0
  go_enter Tryz.func20, Tryz.ntmps20
  go_wp2_with fail
  generalize w.alloc (.cells #[sinkV gb b] 58) = w1 at *
  refine (S0.out.name a HL.out HA.out).mono ?_
  rintro e w2 ⟨rfl, hS⟩
  have S1 := Lib.hid hS
  go_wp2_with fail
  exact bodyPost_ret (v := .tuple #[]) (by simp [results, Tryz.results20, go_sem]) rfl S1.out.took
set_option maxRecDepth 100000 in
set_option maxHeartbeats 1600000 in
theorem parts_text (B0 B b gb : Nat) (l : List (List UInt8)) (a v f : ByteArray) (ts : List Trm) (p : Addr) (A : Option Addr) (cap : Nat) (w0 w : World) (hG : Glb B0 w) (hB0 : B0 ≤ B) (hob : w0.heap.size ≤ B) (hT : TxtAt B b gb l w) (ho : Below w0.heap.size w0 w) (hP : PtM w0 p (.mk 3 a v f ts) A cap) (hlen : szP l + szP (prtM (.mk 3 a v f ts)) ≤ 100000000000) :
    Calls Tryz.prog 20 #[.pointer (some p), sinkV gb b] w (TookP B b gb (l ++ prtM (.mk 3 a v f ts)) w) := by
  have HE := Lib.hid (show prtM (.mk 3 a v f ts) = [wText, Lib.decDigits a.size, a.data.toList] by rw [prtM]; rfl)
  rw [HE.out] at hlen
  rw [HE.out]
  have HA : a.size ≤ 1000000000000 := by rw [szP_mk3] at hlen; omega
  have HIT := Lib.hid (fun w hG => itoa_any a.size B0 w hG HA)
  generalize Lib.decDigits a.size = dd at *
  rw [szP_mk3] at hlen
  have hl2 : szP l + 5 + (dd.length + 1) + (a.size + 1) ≤ 100000000000 := by omega
  have HL := Lib.hid hl2
  have HD := Lib.hid (show (bys dd).data.toList = dd from bys_data _)
  have HDS := Lib.hid (show (bys dd).size = dd.length by simp [bys, ByteArray.size])
  have S0 := Lib.hid (PSt.start hG hB0 hob hT ho)
  have HP := Lib.hid (hP.keep S0.out.old)
  have HP0 := Lib.hid hP
  clear hP hG hT ho hlen hl2
  obtain ⟨-, c0, -, -, -, -, -⟩ := HP.out
  dsimp only [Trm.kind, Trm.nam] at c0
  have k0 := S0.out.cell.cell 0
  go_enter Tryz.func20, Tryz.ntmps20
  go_wp2_with fail
  generalize w.alloc (.cells #[sinkV gb b] 58) = w1 at *
  refine (S0.out.take ⟨#[116, 101, 120, 116]⟩ (by have := HL.out; show _ + 4 + 1 ≤ _; omega)).mono ?_
  rintro e w2 ⟨rfl, hS⟩
  have S1 := Lib.hid (show PSt B0 B b gb w.heap.size w0 w (l ++ [wText]) w2 from hS)
  clear hS c0 k0
  obtain ⟨-, -, c1, -, -, -, -⟩ := HP0.out.keep S1.out.old
  dsimp only [Trm.nam] at c1
  have k0 := S1.out.cell.cell 0
  go_wp2_with fail
  go_region_with (first
    | (go_at_call 46; refine (HIT.out _ S1.out.drew.glb).mono ?_; rintro e w3 ⟨rfl, hb⟩; have S2 := Lib.hid (S1.out.drew.keep hb); clear hb; have k0 := S2.out.cell.cell 0)
    | (go_at_call 32; refine (S2.out.take (bys dd) (by rw [szP_app, HDS.out, szP_one]; have := HL.out; show _ + (4 + 1) + _ + 1 ≤ _; omega)).mono ?_; rintro e w4 ⟨rfl, hS⟩; have S3 := Lib.hid hS; clear hS))
  all_goals
    rw [HD.out] at S3
    clear c1 k0
    obtain ⟨-, -, c1, -, -, -, -⟩ := HP0.out.keep S3.out.old
    dsimp only [Trm.nam] at c1
    have k0 := S3.out.cell.cell 0
    go_wp2_with fail
    go_region_with (go_at_call 32; refine (S3.out.drew.take a (by rw [szP_app, szP_app, szP_one, szP_one]; have := HL.out; show _ + (4 + 1) + _ + _ + 1 ≤ _; omega)).mono ?_; rintro e w5 ⟨rfl, hS⟩; have S4 := Lib.hid hS; clear hS)
    all_goals
      go_wp2_with fail
      refine bodyPost_ret (v := .tuple #[]) (by simp [results, Tryz.results20, go_sem]) rfl ?_
      have h := S4.out.took
      rw [List.append_assoc, List.append_assoc] at h
      exact h
set_option maxRecDepth 100000 in
set_option maxHeartbeats 4000000 in
theorem parts_any (B0 B b gb : Nat) (w0 : World) (hB0 : B0 ≤ B) (hob : w0.heap.size ≤ B) : ∀ (m : Nat) (t : Trm) (l : List (List UInt8)) (p : Addr) (A : Option Addr) (cap : Nat) (w : World), cntM t ≤ m → Glb B0 w → TxtAt B b gb l w → Below w0.heap.size w0 w → PtM w0 p t A cap → szP l + szP (prtM t) ≤ 100000000000 →
    Calls Tryz.prog 20 #[.pointer (some p), sinkV gb b] w (TookP B b gb (l ++ prtM t) w) := by
  intro m
  induction m with
  | zero => intro t l p A cap w h; have := cnt_pos t; omega
  | succ m ih =>
    intro t l p A cap w hm hG hT ho hP hlen
    obtain ⟨k, a, v, f, ts⟩ := t
    by_cases h1 : k = 1
    · subst h1; exact parts_num B0 B b gb l a v f ts p A cap w0 w hG hB0 hob hT ho hP hlen
    by_cases h2 : k = 2
    · subst h2; exact parts_var B0 B b gb l a v f ts p A cap w0 w hG hB0 hob hT ho hP hlen
    by_cases h3 : k = 3
    · subst h3; exact parts_text B0 B b gb l a v f ts p A cap w0 w hG hB0 hob hT ho hP hlen
    have IH := Lib.hid ih
    clear ih
    have HE := Lib.hid (show prtM (.mk k a v f ts) = [wThe, a.data.toList] ++ ((if k = 5 then wOver :: spokenL v.data.toList else []) ++ ((if f.data.toList.isEmpty then [] else [wAs, f.data.toList]) ++ (prtL true ts ++ [wEnd]))) by rw [prtM, if_neg h1, if_neg h2, if_neg h3])
    have q1 : (k == 1) = false := beq_eq_false_iff_ne.2 h1
    have q2 : (k == 2) = false := beq_eq_false_iff_ne.2 h2
    have q3 : (k == 3) = false := beq_eq_false_iff_ne.2 h3
    have HO5 := Lib.hid (show (k == 5) = true → (if k = 5 then wOver :: spokenL v.data.toList else []) = wOver :: spokenL v.data.toList from fun h => if_pos (beq_iff_eq.1 h))
    have HO0 := Lib.hid (show (k == 5) = false → (if k = 5 then wOver :: spokenL v.data.toList else []) = [] from fun h => if_neg (beq_eq_false_iff_ne.1 h))
    have HF0 := Lib.hid (show f.toList.isEmpty = true → (if f.data.toList.isEmpty then [] else [wAs, f.data.toList]) = [] from fun h => by rw [ByteArray.toList_eq] at h; rw [h]; rfl)
    have HF1 := Lib.hid (show f.toList.isEmpty = false → (if f.data.toList.isEmpty then [] else [wAs, f.data.toList]) = [wAs, f.data.toList] from fun h => by rw [ByteArray.toList_eq] at h; rw [h]; rfl)
    generalize (if k = 5 then wOver :: spokenL v.data.toList else []) = O at *
    generalize (if f.data.toList.isEmpty then [] else [wAs, f.data.toList]) = F at *
    rw [HE.out] at hlen
    rw [HE.out]
    have HL := Lib.hid (show szP l + (4 + (a.size + 1)) + szP O + szP F + szP (prtL true ts) + 4 ≤ 100000000000 by
      rw [szP_app, szP_app, szP_app, szP_app, szP_one, szP_cons, szP_one] at hlen
      have e1 : wThe.length = 3 := rfl
      have e2 : wEnd.length = 3 := rfl
      have e3 : a.data.toList.length = a.size := by simp
      omega)
    have HZ := Lib.hid (show cntL ts ≤ m by rw [cntM] at hm; omega)
    have HV := Lib.hid (show v.size ≤ 9223372036854775807 from by obtain ⟨-, -, -, -, -, -, -, h, -⟩ := hP; exact h)
    have S0 := Lib.hid (PSt.start hG hB0 hob hT ho)
    have HP0 := Lib.hid hP
    have HP := Lib.hid (hP.keep S0.out.old)
    clear hP hG hT ho hlen hm h1 h2 h3
    obtain ⟨-, c0, -, -, -, -, -⟩ := HP.out
    dsimp only [Trm.kind, Trm.nam] at c0
    have k0 := S0.out.cell.cell 0
    go_enter Tryz.func20, Tryz.ntmps20
    go_wp2_with fail
    generalize w.alloc (.cells #[sinkV gb b] 58) = w1 at *
    refine (S0.out.take ⟨#[116, 104, 101]⟩ (by have := HL.out; show _ + 3 + 1 ≤ _; omega)).mono ?_
    rintro e w2 ⟨rfl, hS⟩
    have S1 := Lib.hid (show PSt B0 B b gb w.heap.size w0 w (l ++ [wThe]) w2 from hS)
    clear hS c0 k0
    obtain ⟨-, -, c1, -, -, -, -⟩ := HP0.out.keep S1.out.old
    dsimp only [Trm.nam] at c1
    have k0 := S1.out.cell.cell 0
    go_upto_region 12 with (fail)
    go_cut [] (fun wc => Hid (PSt B0 B b gb w.heap.size w0 w (l ++ [wThe, a.data.toList]) wc))
    case first =>
      go_region_with (go_at_call 32; refine (S1.out.drew.take a (by rw [szP_app, szP_one]; have := HL.out; show _ + (3 + 1) + _ + 1 ≤ _; omega)).mono ?_; rintro e w5 ⟨rfl, hS⟩; have S2 := Lib.hid hS; clear hS)
      all_goals
        go_wp2_with fail
        go_meet
        have h := S2.out
        rw [List.append_assoc] at h
        exact h
    case rest =>
      clear S0 S1 HP c1 k0
      have S2 := hcut
      clear hcut
      generalize wc = w3 at *
      obtain ⟨-, c0, -, c2, -, c4, -⟩ := HP0.out.keep S2.out.old
      dsimp only [Trm.kind, Trm.vr, Trm.form] at c0 c2 c4
      have k0 := S2.out.cell.cell 0
      go_upto_if 57 with (fail)
      go_cut [] (fun wc => Hid (PSt B0 B b gb w.heap.size w0 w (l ++ [wThe, a.data.toList] ++ O) wc))
      case first =>
        cases q5 : (k == 5)
        · have HEO := Lib.hid (HO0.out q5)
          go_wp2_with fail
          go_meet
          rw [HEO.out, List.append_nil]
          exact S2.out
        · have HEO := Lib.hid (HO5.out q5)
          have HLO := Lib.hid (show szP l + (4 + (a.size + 1)) + 5 ≤ 100000000000 by have h1 := HL.out; rw [HEO.out, szP_cons] at h1; have e1 : wOver.length = 4 := rfl; omega)
          go_wp2_with fail
          refine (S2.out.take ⟨#[111, 118, 101, 114]⟩ (by rw [szP_app, szP_cons, szP_one]; have := HLO.out; have e3 : a.data.toList.length = a.size := by simp
                                                          show _ + (3 + 1 + _) + 4 + 1 ≤ _; omega)).mono ?_
          rintro e w5 ⟨rfl, hS⟩
          have S3 := Lib.hid (show PSt B0 B b gb w.heap.size w0 w (l ++ [wThe, a.data.toList] ++ [wOver]) w5 from hS)
          clear hS c0 c2 c4 k0
          obtain ⟨-, -, -, c2, -, -, -⟩ := HP0.out.keep S3.out.old
          dsimp only [Trm.vr] at c2
          have k0 := S3.out.cell.cell 0
          go_wp2_with fail
          refine (S3.out.name v (by rw [szP_app, szP_app, szP_cons, szP_one, szP_one]; have := HLO.out; have e3 : a.data.toList.length = a.size := by simp
                                    show _ + (3 + 1 + _) + (4 + 1) ≤ _; omega) HV.out).mono ?_
          rintro e w6 ⟨rfl, hS⟩
          have S4 := Lib.hid hS
          clear hS c2 k0
          go_wp2_with fail
          go_meet
          have h := S4.out
          rw [HEO.out]
          rw [List.append_assoc] at h
          exact h
      case rest =>
        clear S2 c0 c2 c4 k0 HO5 HO0
        have S3 := hcut
        clear hcut
        generalize wc = w4 at *
        obtain ⟨-, -, -, -, -, c4, -⟩ := HP0.out.keep S3.out.old
        dsimp only [Trm.form] at c4
        have k0 := S3.out.cell.cell 0
        go_upto_if 70 with (fail)
        go_cut [] (fun wc => Hid (PSt B0 B b gb w.heap.size w0 w (l ++ [wThe, a.data.toList] ++ O ++ F) wc))
        case first =>
          cases qf : f.toList.isEmpty
          · have HEF := Lib.hid (HF1.out qf)
            have HLF := Lib.hid (show szP l + (4 + (a.size + 1)) + szP O + 3 + f.size + 1 ≤ 100000000000 by have h1 := HL.out; rw [HEF.out, szP_cons, szP_one] at h1; have e1 : wAs.length = 2 := rfl; have e2 : f.data.toList.length = f.size := by simp
                                                                                                            omega)
            go_wp2_with fail
            refine (S3.out.take ⟨#[97, 115]⟩ (by rw [szP_app, szP_app, szP_cons, szP_one]; have := HLF.out; have e3 : a.data.toList.length = a.size := by simp
                                                 show _ + (3 + 1 + _) + _ + 2 + 1 ≤ _; omega)).mono ?_
            rintro e w5 ⟨rfl, hS⟩
            have S4 := Lib.hid (show PSt B0 B b gb w.heap.size w0 w (l ++ [wThe, a.data.toList] ++ O ++ [wAs]) w5 from hS)
            clear hS c4 k0
            obtain ⟨-, -, -, -, -, c4, -⟩ := HP0.out.keep S4.out.old
            dsimp only [Trm.form] at c4
            have k0 := S4.out.cell.cell 0
            go_wp2_with fail
            have HB6 := Lib.hid (show szP (l ++ [wThe, a.data.toList] ++ O ++ [wAs]) + f.size + 1 ≤ 1000000000000 by
              rw [szP_app, szP_app, szP_app, szP_cons, szP_one, szP_one]
              have := HLF.out
              have e3 : a.data.toList.length = a.size := by simp
              show _ + (3 + 1 + _) + _ + (2 + 1) + _ + 1 ≤ _
              omega)
            go_region_with (go_at_call 32; refine (S4.out.drew.take f HB6.out).mono ?_; rintro e w6 ⟨rfl, hS⟩; have S5 := Lib.hid hS; clear hS)
            all_goals
              go_wp2_with fail
              go_meet
              have h := S5.out
              rw [HEF.out]
              rw [List.append_assoc] at h
              exact h
          · have HEF := Lib.hid (HF0.out qf)
            go_wp2_with fail
            go_meet
            rw [HEF.out, List.append_nil]
            exact S3.out
        case rest =>
          clear S3 c4 k0 HF0 HF1
          have S4 := hcut
          clear hcut
          generalize wc = w5 at *
          obtain ⟨-, -, -, -, c3, -, -, -, -, hl, hc, -⟩ := HP0.out.keep S4.out.old
          dsimp only [Trm.args] at c3 hl
          have HPL := Lib.hid (show szP (l ++ [wThe, a.data.toList] ++ O ++ F) + szP (prtL true ts) + 4 ≤ 100000000000 by
            rw [szP_app, szP_app, szP_app, szP_cons, szP_one]; have := HL.out; have e3 : a.data.toList.length = a.size := by simp
            have e1 : wThe.length = 3 := rfl
            omega)
          have HEQ := Lib.hid (show l ++ [wThe, a.data.toList] ++ O ++ F ++ (prtL true ts ++ [wEnd]) = l ++ ([wThe, a.data.toList] ++ (O ++ (F ++ (prtL true ts ++ [wEnd])))) by simp only [List.append_assoc])
          generalize l ++ [wThe, a.data.toList] ++ O ++ F = L at *
          go_wp2_with fail
          clear c3
          go_loopw [84] (fun i wr => ∃ j : Nat, j ≤ ts.length ∧ i = .int .i64 j ∧ Hid (PSt B0 B b gb w.heap.size w0 w (L ++ prtL true (ts.take j)) wr)) (fun i _ => ts.length - (intOf i).toNat)
          case atStart => exact ⟨0, by omega, rfl, (by rw [List.take_zero, show prtL true [] = [] by rw [prtL], List.append_nil]; exact S4.out)⟩
          case round =>
            clear S4
            obtain ⟨j, hj, rfl, S4⟩ := hrel
            have k0 := S4.out.cell.cell 0
            by_cases hlt : j < ts.length
            · obtain ⟨y, hy⟩ : ∃ y, ts[j]? = some y := ⟨_, List.getElem?_eq_getElem hlt⟩
              have HSN := Lib.hid (prtL_snoc hy)
              have HSZ := Lib.hid (prtL_take_sz ts (j + 1))
              have HS := Lib.hid (show cntM y ≤ m by have := cnt_arg hy; have := HZ.out; omega)
              have HY0 : ∃ ad A2 cap2, A = some ad ∧ PtM w0 (ad.add (j * 5)) y A2 cap2 := by
                obtain ⟨-, -, -, -, -, -, -, -, -, -, -, hk0⟩ := HP0.out
                dsimp only [Trm.args] at hk0
                obtain ⟨ad', A'', cap'', e1, hadl', hp'⟩ := hk0.at_ hy
                exact ⟨ad', A'', cap'', e1, hp'⟩
              obtain ⟨ad, A2, cap2, rfl, hy0⟩ := HY0
              have HY := Lib.hid hy0
              clear hy0 hy
              generalize hwd : (if j = 0 then wOf else wAnd) = wd at *
              have HLD := Lib.hid (show szP (L ++ prtL true (ts.take j)) + (wd.length + 1) + szP (prtM y) + 4 ≤ 100000000000 by
                have h1 := HSZ.out
                rw [HSN.out, szP_app, szP_cons] at h1
                have h2 := HPL.out
                rw [szP_app]
                omega)
              have HWD := Lib.hid hwd
              clear hwd
              go_upto_if 88 with (fail)
              go_cut [] (fun wc => Hid (PSt B0 B b gb w.heap.size w0 w (L ++ prtL true (ts.take j) ++ [wd]) wc))
              case first =>
                by_cases hj0 : j = 0
                · have HWE := Lib.hid (show wd = wOf by rw [← HWD.out, if_pos hj0])
                  have hq : ((j : Int) == 0) = true := by rw [beq_iff_eq]; omega
                  have HB7 := Lib.hid (show szP (L ++ prtL true (ts.take j)) + (⟨#[111, 102]⟩ : ByteArray).size + 1 ≤ 1000000000000 by have := HLD.out; show _ + 2 + 1 ≤ _; omega)
                  replace hj0 := Lib.hid hj0
                  go_wp2_with fail
                  refine (S4.out.take ⟨#[111, 102]⟩ HB7.out).mono ?_
                  rintro e w6 ⟨rfl, hS⟩
                  have S5 := Lib.hid (show PSt B0 B b gb w.heap.size w0 w (L ++ prtL true (ts.take j) ++ [wOf]) w6 from hS)
                  clear hS
                  go_wp2_with fail
                  go_meet
                  rw [HWE.out]
                  exact S5.out
                · have HWE := Lib.hid (show wd = wAnd by rw [← HWD.out, if_neg hj0])
                  have hq : ((j : Int) == 0) = false := by rw [beq_eq_false_iff_ne]; omega
                  have HB7 := Lib.hid (show szP (L ++ prtL true (ts.take j)) + (⟨#[97, 110, 100]⟩ : ByteArray).size + 1 ≤ 1000000000000 by have := HLD.out; show _ + 3 + 1 ≤ _; omega)
                  replace hj0 := Lib.hid hj0
                  go_wp2_with fail
                  refine (S4.out.take ⟨#[97, 110, 100]⟩ HB7.out).mono ?_
                  rintro e w6 ⟨rfl, hS⟩
                  have S5 := Lib.hid (show PSt B0 B b gb w.heap.size w0 w (L ++ prtL true (ts.take j) ++ [wAnd]) w6 from hS)
                  clear hS
                  go_wp2_with fail
                  go_meet
                  rw [HWE.out]
                  exact S5.out
              case rest =>
                clear S4 k0
                have S5 := hcut
                clear hcut
                generalize wc = w7 at *
                obtain ⟨-, -, -, -, c3, -, -, -, -, -, -, -⟩ := HP0.out.keep S5.out.old
                dsimp only [Trm.args] at c3
                have k0 := S5.out.cell.cell 0
                have HB8 := Lib.hid (show szP (L ++ prtL true (ts.take j) ++ [wd]) + szP (prtM y) ≤ 100000000000 by rw [szP_app, szP_one]; have := HLD.out; omega)
                have HD := Lib.hid S5.out.drew
                go_wp2_with fail
                go_region_with (go_at_call 20; refine (IH.out y _ (ad.add (j * 5)) A2 cap2 w7.drew HS.out HD.out.glb HD.out.txt HD.out.old HY.out HB8.out).mono ?_; rintro e w8 hT8; obtain ⟨rfl, hS⟩ := HD.out.next hT8; have S6 := Lib.hid hS; clear hS hT8)
                all_goals
                  clear c3 k0
                  have S7 := Lib.hid (show PSt B0 B b gb w.heap.size w0 w (L ++ prtL true (ts.take (j + 1))) w8 by
                    have h := S6.out
                    rw [HSN.out]
                    rw [List.append_assoc, List.append_assoc] at h
                    exact h)
                  go_wp2_with fail
                  go_roundw
                  case rel => exact ⟨j + 1, by omega, by go_num, S7⟩
                  case measure => simp [intOf]; omega
            · obtain rfl : j = ts.length := by omega
              rw [List.take_length] at S4
              go_wp2_with fail
              refine (S4.out.take ⟨#[101, 110, 100]⟩ (by rw [szP_app]; have := HPL.out; show _ + 3 + 1 ≤ _; omega)).mono ?_
              rintro e w6 ⟨rfl, hS⟩
              have S5 := Lib.hid (show PSt B0 B b gb w.heap.size w0 w (L ++ prtL true ts ++ [wEnd]) w6 from hS)
              clear hS
              rw [List.append_assoc, HEQ.out] at S5
              go_wp2_with fail
              exact bodyPost_ret (v := .tuple #[]) (by simp [results, Tryz.results20, go_sem]) rfl S5.out.took
end Go.Proofs.YtpokelkneblafaaGreatDoor.Wds
