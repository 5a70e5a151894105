/- The function value that writes the parts of a spoken text: a builder and a flag beside it. -/
import Derived.Test.YtpokelkneblafaaGreatDoorVP
import Derived.Test.YtpokelkneblafaaGreatDoorShelf
import Derived.Shelf.Strings.BuilderK
import Derived.Lib.Join
namespace Go.Proofs.YtpokelkneblafaaGreatDoor
open Go.RowKit
theorem lays166x : Go.Proofs.Lays.n166 Tryz.prog Tryz.lays159_ren := { Tryz.lays159 with }
theorem lays167x : Go.Proofs.Lays.n167 Tryz.prog Tryz.lays159_ren := { Tryz.lays159 with }
/-- every block that is neither of two and holds no bytes stands as it stood -/
def KeptX (b gb : Nat) (w w' : World) : Prop := ∀ (k : Nat) (o : Obj), w.heap[k]? = some o → k ≠ b → k ≠ gb → (∀ c fz, o ≠ .cells c 5 fz) → w'.heap[k]? = some o
theorem KeptX.refl (b gb : Nat) (w : World) : KeptX b gb w w := fun _ _ h _ _ _ => h
theorem KeptX.trans {b gb : Nat} {a c d : World} (h : KeptX b gb a c) (k : KeptX b gb c d) : KeptX b gb a d := fun i o hi h1 h2 h3 => k i o (h i o hi h1 h2 h3) h1 h2 h3
theorem KeptX.below {b gb : Nat} {w w' : World} (h : Below w.heap.size w w') : KeptX b gb w w' := fun k _ hk _ _ _ => (h.block k (Array.getElem?_eq_some_iff.1 hk).1).trans hk
theorem KeptX.others {b gb : Nat} {w w' : World} (h : Lib.OthersKept 5 (some b) w w') : KeptX b gb w w' := fun k o hk h1 _ h3 => h k o hk (fun e => h1 (Option.some.inj e)) h3
theorem KeptX.flag {b gb : Nat} (w : World) (v : Value) : KeptX b gb w (w.setCell ⟨gb, 0, none⟩ v) := fun k o hk _ h2 _ => by
  rw [Below.heap_setCell _ _ _ _ (fun e => h2 e)]
  exact hk
theorem KeptX.blk {b gb : Nat} {w w' : World} (h : KeptX b gb w w') {g : Nat} {t : TypeId} {cs : Array Value} (hK : Blk w g t cs) (ht : t ≠ 5) (h1 : g ≠ b) (h2 : g ≠ gb) : Blk w' g t cs :=
  h g _ hK h1 h2 (fun c fz e => by injection e with _ e2; exact ht e2)
theorem ok_blk {b : Nat} {w w' : World} (h : Lib.OthersKept 5 (some b) w w') {g : Nat} {t : TypeId} {cs : Array Value} (hK : Blk w g t cs) (ht : t ≠ 5) (h1 : g ≠ b) : Blk w' g t cs :=
  h g _ hK (fun e => h1 (Option.some.inj e)) (fun c fz e => by injection e with _ e2; exact ht e2)
theorem bF_below {T e : TypeId} {B b : Nat} {p : Value} {bs : List Value} {W W' : World} (h : Lib.BuilderAtF T e B b p bs W) (hb : Below W.heap.size W W') : Lib.BuilderAtF T e B b p bs W' := by
  have hlt := h.lt
  obtain ⟨hB, v, hv, hown, hne⟩ := h
  exact ⟨hB, v, (hb.block b hlt).trans hv, hown.kept (row := none) ⟨hb.os, hb.tape, hb.output, hb.size, fun k hk _ => hb.block k hk⟩ (Classical.em _), hne⟩
theorem iF_below {T e : TypeId} {B b : Nat} {bs : List Value} {W W' : World} (h : Lib.IsBuilderF T e B b bs W) (hb : Below W.heap.size W W') : Lib.IsBuilderF T e B b bs W' :=
  h.elim (fun x => .inl (bF_below x hb)) (fun x => .inr (bF_below x hb))
theorem iF_lt {T e : TypeId} {B b : Nat} {bs : List Value} {W : World} (h : Lib.IsBuilderF T e B b bs W) : b < W.heap.size := h.elim (fun x => x.lt) (fun x => x.lt)
theorem bF_flag {T e u : TypeId} {B b gb : Nat} {p v : Value} {bs : List Value} {cs : Array Value} {W : World} (h : Lib.BuilderAtF T e B b p bs W) (hK : Blk W gb u cs) (hu : u ≠ e) (hne : b ≠ gb) : Lib.BuilderAtF T e B b p bs (W.setCell ⟨gb, 0, none⟩ v) := by
  obtain ⟨hB, x, hv, hown, hx⟩ := h
  refine ⟨hB, x, (Below.heap_setCell _ _ _ _ hne).trans hv, ?_, hx⟩
  exact hown.kept (row := some gb) ⟨rfl, rfl, rfl, by simp [World.setCell], fun k _ hk => Below.heap_setCell _ _ _ _ (fun e => hk (by simp [e]))⟩ (Or.inr (Lib.ownBlock_neF hown hK hu))
/-- what a builder and a flag beside it hold: the parts taken so far -/
structure TxtAt (B b gb : Nat) (l : List (List UInt8)) (w : World) : Prop where
  ne : b ≠ gb
  lo : B ≤ b
  lg : B ≤ gb
  flag : Blk w gb 4 #[.bool (!l.isEmpty)]
  bld : Lib.IsBuilderF 50 5 B b (Lib.byteCells (Lib.join l [32])) w
theorem TxtAt.keep {B b gb : Nat} {l : List (List UInt8)} {w w' : World} (h : TxtAt B b gb l w) (hb : Below w.heap.size w w') : TxtAt B b gb l w' :=
  ⟨h.ne, h.lo, h.lg, _root_.Go.Proofs.YtpokelkneblafaaGreatDoor.keep hb h.flag, iF_below h.bld hb⟩
theorem join_snoc {l : List (List UInt8)} (h : l ≠ []) (x : List UInt8) : Lib.join (l ++ [x]) [32] = Lib.join l [32] ++ 32 :: x := by
  cases l with
  | nil => exact absurd rfl h
  | cons y r =>
    rw [List.cons_append, Lib.join_cons, Lib.join_cons]
    simp [Lib.joinTail]
theorem bc_app (l : List UInt8) (s : ByteArray) : Lib.byteCells l ++ Lib.strCells s = Lib.byteCells (l ++ s.data.toList) := by
  simp [Lib.byteCells, Lib.strCells]
theorem bc_one (l : List UInt8) : Lib.byteCells l ++ [.int .u8 32] = Lib.byteCells (l ++ [32]) := by
  simp [Lib.byteCells]
theorem bc_len (l : List UInt8) : (Lib.byteCells l).length = l.length := by simp [Lib.byteCells]
theorem wbyte_any (B b : Nat) (l : List UInt8) (w : World) (h : Lib.IsBuilderF 50 5 B b (Lib.byteCells l) w) (hlen : l.length + 1 ≤ 140737488355328) (hBw : B ≤ w.heap.size) :
    Calls Tryz.prog 22 #[.pointer (some ⟨b, 0, none⟩), .int .u8 32] w fun e w' => e = .returned .nilIface ∧ Lib.IsBuilderF 50 5 B b (Lib.byteCells (l ++ [32])) w' ∧ Below B w w' ∧ Lib.OthersKept 5 (some b) w w' := by
  refine (Any.Builder_WriteByte_k (ρ := Tryz.lays159_ren) lays167x Tryz.Builder_Extra_159 B b (Lib.byteCells l) 32 w h (by rw [bc_len]; exact hlen) hBw).mono ?_
  rintro e w' ⟨rfl, h1, h2, h3⟩
  rw [bc_one] at h1
  exact ⟨rfl, .inr h1, h2, h3⟩
theorem wstr_any (B b : Nat) (l : List UInt8) (s : ByteArray) (w : World) (h : Lib.IsBuilderF 50 5 B b (Lib.byteCells l) w) (hlen : l.length + s.size ≤ 140737488355328) (hBw : B ≤ w.heap.size) :
    Calls Tryz.prog 23 #[.pointer (some ⟨b, 0, none⟩), .string s] w fun e w' => e = .returned (.tuple #[.int .i64 s.size, .nilIface]) ∧ Lib.IsBuilderF 50 5 B b (Lib.byteCells (l ++ s.data.toList)) w' ∧ Below B w w' ∧ Lib.OthersKept 5 (some b) w w' := by
  refine (Any.Builder_WriteString_k (ρ := Tryz.lays159_ren) lays166x Tryz.Builder_Extra_159 B b (Lib.byteCells l) s w h (by rw [bc_len]; exact hlen) hBw).mono ?_
  rintro e w' ⟨rfl, h1, h2, h3⟩
  rw [bc_app] at h1
  exact ⟨rfl, .inr h1, h2, h3⟩
theorem bstr_any (B b : Nat) (l : List UInt8) (w : World) (h : Lib.IsBuilderF 50 5 B b (Lib.byteCells l) w) (hBw : B ≤ w.heap.size) :
    Calls Tryz.prog 24 #[.pointer (some ⟨b, 0, none⟩)] w fun e w' => e = .returned (.string ⟨l.toArray⟩) ∧ Below B w w' :=
  (Any.Builder_String_any_k (ρ := Tryz.lays169_ren) Tryz.lays169 Tryz.Builder_Extra_169 B b l w h hBw).mono fun _ _ ⟨h1, _, h2, _⟩ => ⟨h1, h2⟩
/-- behind a part -/
def TookP (B b gb : Nat) (l : List (List UInt8)) (w : World) (e : Ending) (w' : World) : Prop := e = .returned (.tuple #[]) ∧ TxtAt B b gb l w' ∧ Below B w w' ∧ KeptX b gb w w'
set_option maxRecDepth 100000 in
set_option maxHeartbeats 800000 in
theorem sink_any (B b gb : Nat) (l : List (List UInt8)) (s : ByteArray) (w : World) (hT : TxtAt B b gb l w) (hlen : (Lib.join l [32]).length + s.size + 1 ≤ 1000000000000) (hBw : B ≤ w.heap.size) :
    Calls Tryz.prog 21 #[.string s, .pointer (some ⟨gb, 0, none⟩), .pointer (some ⟨b, 0, none⟩)] w (TookP B b gb (l ++ [s.data.toList]) w) := by
  obtain ⟨hne, hlo, hlg, hK, hI⟩ := hT
  have HI := Lib.hid hI
  have HK := Lib.hid hK
  have HN := Lib.hid hne
  have HLG := Lib.hid hlg
  have HLO := Lib.hid hlo
  have HLEN := Lib.hid hlen
  have HBW := Lib.hid hBw
  have c0 := hK.cell 0
  clear hI hK hne hlen hBw
  cases l with
  | nil =>
    go_enter Tryz.func21, Tryz.ntmps21
    go_wp2_with fail
    refine (wstr_any B b (Lib.join [] [32]) s w HI.out (by have := HLEN.out; omega) HBW.out).mono ?_
    rintro e w1 ⟨rfl, hI, hb, hk⟩
    have K1 := Lib.hid (ok_blk hk HK.out (by decide) (fun e => HN.out e.symm))
    have I1 := Lib.hid hI
    have X1 := Lib.hid (KeptX.others (gb := gb) hk)
    have B1 := Lib.hid hb
    clear hI hb hk c0
    have c0 := K1.out.cell 0
    have f0 := K1.out.frozen 0
    go_wp2_with fail
    refine bodyPost_ret (v := .tuple #[]) (by simp [results, Tryz.results21, go_sem]) rfl ?_
    refine ⟨rfl, ⟨HN.out, HLO.out, HLG.out, K1.out.set_ 0 (.bool true), ?_⟩, B1.out.setCell (p := ⟨gb, 0, none⟩) HLG.out _, X1.out.trans (KeptX.flag _ _)⟩
    have h1 := I1.out.elim (fun x => Or.inl (bF_flag (v := .bool true) x K1.out (by decide) HN.out)) (fun x => Or.inr (bF_flag (v := .bool true) x K1.out (by decide) HN.out))
    rw [Lib.join_nil] at h1
    rw [Lib.join_one]
    exact h1
  | cons x r =>
    have HJ := Lib.hid (join_snoc (l := x :: r) (by simp) s.data.toList)
    go_enter Tryz.func21, Tryz.ntmps21
    go_wp2_with fail
    refine (wbyte_any B b (Lib.join (x :: r) [32]) w HI.out (by have := HLEN.out; omega) HBW.out).mono ?_
    rintro e w1 ⟨rfl, hI, hb, hk⟩
    have K1 := Lib.hid (ok_blk hk HK.out (by decide) (fun e => HN.out e.symm))
    have I1 := Lib.hid hI
    have X1 := Lib.hid (KeptX.others (gb := gb) hk)
    have B1 := Lib.hid hb
    clear hI hb hk c0
    go_wp2_with fail
    refine (wstr_any B b (Lib.join (x :: r) [32] ++ [32]) s w1 I1.out (by have := HLEN.out; simp; omega) (Nat.le_trans HBW.out B1.out.size)).mono ?_
    rintro e w2 ⟨rfl, hI, hb, hk⟩
    have K2 := Lib.hid (ok_blk hk K1.out (by decide) (fun e => HN.out e.symm))
    have I2 := Lib.hid hI
    have X2 := Lib.hid (X1.out.trans (KeptX.others (gb := gb) hk))
    have B2 := Lib.hid (B1.out.trans hb)
    clear hI hb hk
    have c0 := K2.out.cell 0
    have f0 := K2.out.frozen 0
    go_wp2_with fail
    refine bodyPost_ret (v := .tuple #[]) (by simp [results, Tryz.results21, go_sem]) rfl ?_
    refine ⟨rfl, ⟨HN.out, HLO.out, HLG.out, ?_, ?_⟩, B2.out.setCell (p := ⟨gb, 0, none⟩) HLG.out _, X2.out.trans (KeptX.flag _ _)⟩
    · exact K2.out.set_ 0 (.bool true)
    · have h1 := I2.out.elim (fun x => Or.inl (bF_flag (v := .bool true) x K2.out (by decide) HN.out)) (fun x => Or.inr (bF_flag (v := .bool true) x K2.out (by decide) HN.out))
      have e := HJ.out
      rw [List.cons_append] at e
      rw [e]
      rw [List.append_assoc] at h1
      exact h1
end Go.Proofs.YtpokelkneblafaaGreatDoor
