/- The parts of the spoken text of a term: leaves. -/
import Derived.Test.YtpokelkneblafaaGreatDoorPA
import Derived.Deep.RegionWith
import Derived.Deep.DeepCutAuto
namespace Go.Proofs.YtpokelkneblafaaGreatDoor
open Go.RowKit
/-- where the walk of a term's parts stands -/
structure PSt (B0 B b gb gp : Nat) (w0 w : World) (l : List (List UInt8)) (wr : World) : Prop where
  b0 : B0 ≤ B
  ob : w0.heap.size ≤ B
  ne1 : gp ≠ b
  ne2 : gp ≠ gb
  glb : Glb B0 wr
  txt : TxtAt B b gb l wr
  bel : Below B w wr
  kpt : KeptX b gb w wr
  cell : Blk wr gp 58 #[sinkV gb b]
  old : Below w0.heap.size w0 wr
section
variable {B0 B b gb gp : Nat} {w0 w wr : World} {l : List (List UInt8)}
theorem PSt.size (h : PSt B0 B b gb gp w0 w l wr) : B ≤ wr.heap.size := Nat.le_of_lt (Nat.lt_of_le_of_lt h.txt.lo (iF_lt h.txt.bld))
theorem PSt.next (h : PSt B0 B b gb gp w0 w l wr) {l' : List (List UInt8)} {e : Ending} {w' : World} (hT : TookP B b gb l' wr e w') : e = .returned (.tuple #[]) ∧ PSt B0 B b gb gp w0 w l' w' := by
  obtain ⟨he, h1, h2, h3⟩ := hT
  exact ⟨he, ⟨h.b0, h.ob, h.ne1, h.ne2, h.glb.keep h.b0 h2, h1, h.bel.trans h2, h.kpt.trans h3, h3.blk h.cell (by decide) h.ne1 h.ne2, h.old.trans (h2.mono h.ob)⟩⟩
theorem PSt.keep {w' : World} (h : PSt B0 B b gb gp w0 w l wr) (hb : Below wr.heap.size wr w') : PSt B0 B b gb gp w0 w l w' :=
  ⟨h.b0, h.ob, h.ne1, h.ne2, h.glb.keep (Nat.le_trans h.b0 h.size) hb, h.txt.keep hb, h.bel.trans (hb.mono h.size), h.kpt.trans (KeptX.below hb), _root_.Go.Proofs.YtpokelkneblafaaGreatDoor.keep hb h.cell, h.old.trans (hb.mono (Nat.le_trans h.ob h.size))⟩
theorem PSt.drew (h : PSt B0 B b gb gp w0 w l wr) : PSt B0 B b gb gp w0 w l wr.drew := h.keep (below_drew (Below.refl _ _))
theorem PSt.took (h : PSt B0 B b gb gp w0 w l wr) : TookP B b gb l w (.returned (.tuple #[])) wr := ⟨rfl, h.txt, h.bel, h.kpt⟩
theorem PSt.take (h : PSt B0 B b gb gp w0 w l wr) (s : ByteArray) (hlen : szP l + s.size + 1 ≤ 1000000000000) : Calls Tryz.prog 21 #[.string s, .pointer (some ⟨gb, 0, none⟩), .pointer (some ⟨b, 0, none⟩)] wr fun e w' => e = .returned (.tuple #[]) ∧ PSt B0 B b gb gp w0 w (l ++ [s.data.toList]) w' :=
  (sink_any B b gb l s wr h.txt (by have := join_le l; omega) h.size).mono fun _ _ hT => h.next hT
theorem PSt.name (h : PSt B0 B b gb gp w0 w l wr) (s : ByteArray) (hlen : szP l ≤ 100000000000) (hs : s.size ≤ 9223372036854775807) : Calls Tryz.prog 43 #[.string s, .pointer (some ⟨gp, 0, none⟩)] wr fun e w' => e = .returned (.tuple #[]) ∧ PSt B0 B b gb gp w0 w (l ++ spokenL s.data.toList) w' :=
  (pname_any B0 B b gb gp l s wr h.glb h.b0 h.txt h.cell h.ne1 h.ne2 hlen hs).mono fun _ _ hT => h.next hT
theorem PSt.start {B0 B b gb : Nat} {w0 w : World} {l : List (List UInt8)} (hG : Glb B0 w) (hB0 : B0 ≤ B) (hob : w0.heap.size ≤ B) (hT : TxtAt B b gb l w) (ho : Below w0.heap.size w0 w) : PSt B0 B b gb w.heap.size w0 w l (w.alloc (.cells #[sinkV gb b] 58)) := by
  have hBw : B ≤ w.heap.size := Nat.le_of_lt (Nat.lt_of_le_of_lt hT.lo (iF_lt hT.bld))
  have hb := bel_alloc w (.cells #[sinkV gb b] 58)
  exact ⟨hB0, hob, Nat.ne_of_gt (iF_lt hT.bld), Nat.ne_of_gt hT.flag.lt, hG.keep (Nat.le_trans hB0 hBw) hb, hT.keep hb, hb.mono hBw, KeptX.below hb, Blk.new _ _ _, ho.trans (hb.mono (Nat.le_trans hob hBw))⟩
end
theorem szP_one (x : List UInt8) : szP [x] = x.length + 1 := by simp [szP]
theorem szP_mk3 (d : List UInt8) (a : ByteArray) : szP [wText, d, a.data.toList] = 5 + (d.length + 1) + (a.size + 1) := by
  simp [szP, wText]
  omega
set_option maxRecDepth 100000 in
set_option maxHeartbeats 1600000 in
theorem parts_num (B0 B b gb : Nat) (l : List (List UInt8)) (a v f : ByteArray) (ts : List Trm) (p : Addr) (A : Option Addr) (cap : Nat) (w0 w : World) (hG : Glb B0 w) (hB0 : B0 ≤ B) (hob : w0.heap.size ≤ B) (hT : TxtAt B b gb l w) (ho : Below w0.heap.size w0 w) (hP : PtM w0 p (.mk 1 a v f ts) A cap) (hlen : szP l + szP (prtM (.mk 1 a v f ts)) ≤ 100000000000) :
    Calls Tryz.prog 20 #[.pointer (some p), sinkV gb b] w (TookP B b gb (l ++ prtM (.mk 1 a v f ts)) w) := by
  have HE := Lib.hid (show prtM (.mk 1 a v f ts) = [a.data.toList] by rw [prtM]; rfl)
  rw [HE.out] at hlen
  rw [HE.out]
  have HL := Lib.hid (show szP l + a.size + 1 ≤ 1000000000000 by simp [szP] at hlen; unfold szP; omega)
  have S0 := Lib.hid (PSt.start hG hB0 hob hT ho)
  have HP := Lib.hid (hP.keep S0.out.old)
  clear hP hG hT ho hlen
  obtain ⟨-, c0, c1, -, -, -, -⟩ := HP.out
  dsimp only [Trm.kind, Trm.nam] at c0 c1
  have k0 := S0.out.cell.cell 0
  go_enter Tryz.func20, Tryz.ntmps20
  go_wp2_with fail
  generalize w.alloc (.cells #[sinkV gb b] 58) = w1 at *
  go_region_with (go_at_call 21; refine (S0.out.drew.take a HL.out).mono ?_; rintro e w2 ⟨rfl, hS⟩; have S1 := Lib.hid hS)
  all_goals
    go_wp2_with fail
    exact bodyPost_ret (v := .tuple #[]) (by simp [results, Tryz.results20, go_sem]) rfl S1.out.took
set_option maxRecDepth 100000 in
set_option maxHeartbeats 1600000 in
theorem parts_var (B0 B b gb : Nat) (l : List (List UInt8)) (a v f : ByteArray) (ts : List Trm) (p : Addr) (A : Option Addr) (cap : Nat) (w0 w : World) (hG : Glb B0 w) (hB0 : B0 ≤ B) (hob : w0.heap.size ≤ B) (hT : TxtAt B b gb l w) (ho : Below w0.heap.size w0 w) (hP : PtM w0 p (.mk 2 a v f ts) A cap) (hlen : szP l + szP (prtM (.mk 2 a v f ts)) ≤ 100000000000) :
    Calls Tryz.prog 20 #[.pointer (some p), sinkV gb b] w (TookP B b gb (l ++ prtM (.mk 2 a v f ts)) w) := by
  have HE := Lib.hid (show prtM (.mk 2 a v f ts) = spokenL a.data.toList by rw [prtM]; rfl)
  rw [HE.out] at hlen
  rw [HE.out]
  have HL := Lib.hid (show szP l ≤ 100000000000 by omega)
  have HA := Lib.hid (show a.size ≤ 9223372036854775807 from by obtain ⟨-, -, -, -, -, -, h, -⟩ := hP; exact h)
  have S0 := Lib.hid (PSt.start hG hB0 hob hT ho)
  have HP := Lib.hid (hP.keep S0.out.old)
  clear hP hG hT ho hlen
  obtain ⟨-, c0, c1, -, -, -, -⟩ := HP.out
  dsimp only [Trm.kind, Trm.nam] at c0 c1
  have k0 := S0.out.cell.cell 0
  go_enter Tryz.func20, Tryz.ntmps20
  go_wp2_with fail
  generalize w.alloc (.cells #[sinkV gb b] 58) = w1 at *
  refine (S0.out.name a HL.out HA.out).mono ?_
  rintro e w2 ⟨rfl, hS⟩
  have S1 := Lib.hid hS
  go_wp2_with fail
  exact bodyPost_ret (v := .tuple #[]) (by simp [results, Tryz.results20, go_sem]) rfl S1.out.took
set_option maxRecDepth 100000 in
set_option maxHeartbeats 1600000 in
theorem parts_text (B0 B b gb : Nat) (l : List (List UInt8)) (a v f : ByteArray) (ts : List Trm) (p : Addr) (A : Option Addr) (cap : Nat) (w0 w : World) (hG : Glb B0 w) (hB0 : B0 ≤ B) (hob : w0.heap.size ≤ B) (hT : TxtAt B b gb l w) (ho : Below w0.heap.size w0 w) (hP : PtM w0 p (.mk 3 a v f ts) A cap) (hlen : szP l + szP (prtM (.mk 3 a v f ts)) ≤ 100000000000) :
    Calls Tryz.prog 20 #[.pointer (some p), sinkV gb b] w (TookP B b gb (l ++ prtM (.mk 3 a v f ts)) w) := by
  have HE := Lib.hid (show prtM (.mk 3 a v f ts) = [wText, Lib.decDigits a.size, a.data.toList] by rw [prtM]; rfl)
  rw [HE.out] at hlen
  rw [HE.out]
  have HA : a.size ≤ 1000000000000 := by rw [szP_mk3] at hlen; omega
  have HIT := Lib.hid (fun w hG => itoa_any a.size B0 w hG HA)
  generalize Lib.decDigits a.size = dd at *
  rw [szP_mk3] at hlen
  have hl2 : szP l + 5 + (dd.length + 1) + (a.size + 1) ≤ 100000000000 := by omega
  have HL := Lib.hid hl2
  have HD := Lib.hid (show (bys dd).data.toList = dd from bys_data _)
  have HDS := Lib.hid (show (bys dd).size = dd.length by simp [bys, ByteArray.size])
  have S0 := Lib.hid (PSt.start hG hB0 hob hT ho)
  have HP := Lib.hid (hP.keep S0.out.old)
  have HP0 := Lib.hid hP
  clear hP hG hT ho hlen hl2
  obtain ⟨-, c0, -, -, -, -, -⟩ := HP.out
  dsimp only [Trm.kind, Trm.nam] at c0
  have k0 := S0.out.cell.cell 0
  go_enter Tryz.func20, Tryz.ntmps20
  go_wp2_with fail
  generalize w.alloc (.cells #[sinkV gb b] 58) = w1 at *
  refine (S0.out.take ⟨#[116, 101, 120, 116]⟩ (by have := HL.out; show _ + 4 + 1 ≤ _; omega)).mono ?_
  rintro e w2 ⟨rfl, hS⟩
  have S1 := Lib.hid (show PSt B0 B b gb w.heap.size w0 w (l ++ [wText]) w2 from hS)
  clear hS c0 k0
  obtain ⟨-, -, c1, -, -, -, -⟩ := HP0.out.keep S1.out.old
  dsimp only [Trm.nam] at c1
  have k0 := S1.out.cell.cell 0
  go_wp2_with fail
  go_region_with (first
    | (go_at_call 46; refine (HIT.out _ S1.out.drew.glb).mono ?_; rintro e w3 ⟨rfl, hb⟩; have S2 := Lib.hid (S1.out.drew.keep hb); clear hb; have k0 := S2.out.cell.cell 0)
    | (go_at_call 21; refine (S2.out.take (bys dd) (by rw [szP_app, HDS.out, szP_one]; have := HL.out; show _ + (4 + 1) + _ + 1 ≤ _; omega)).mono ?_; rintro e w4 ⟨rfl, hS⟩; have S3 := Lib.hid hS; clear hS))
  all_goals
    rw [HD.out] at S3
    clear c1 k0
    obtain ⟨-, -, c1, -, -, -, -⟩ := HP0.out.keep S3.out.old
    dsimp only [Trm.nam] at c1
    have k0 := S3.out.cell.cell 0
    go_wp2_with fail
    go_region_with (go_at_call 21; refine (S3.out.drew.take a (by rw [szP_app, szP_app, szP_one, szP_one]; have := HL.out; show _ + (4 + 1) + _ + _ + 1 ≤ _; omega)).mono ?_; rintro e w5 ⟨rfl, hS⟩; have S4 := Lib.hid hS; clear hS)
    all_goals
      go_wp2_with fail
      refine bodyPost_ret (v := .tuple #[]) (by simp [results, Tryz.results20, go_sem]) rfl ?_
      have h := S4.out.took
      rw [List.append_assoc, List.append_assoc] at h
      exact h
end Go.Proofs.YtpokelkneblafaaGreatDoor
