/- Default of the reference. -/
import Derived.Test.YtgkfmeagpmjcoaaDoorW8
namespace Go.Proofs.YtgkfmeagpmjcoaaDoor
open Go.RowKit
def relL : List (ByteArray × ByteArray) := [(⟨#[61]⟩, ⟨#[101, 113]⟩), (⟨#[60]⟩, ⟨#[108, 116]⟩), (⟨#[62]⟩, ⟨#[103, 116]⟩), (⟨#[108, 101]⟩, ⟨#[108, 101]⟩), (⟨#[103, 101]⟩, ⟨#[103, 101]⟩), (⟨#[110, 101]⟩, ⟨#[110, 101]⟩), (⟨#[105, 110]⟩, ⟨#[105, 110]⟩)]
def sumL : List (ByteArray × ByteArray) := [(⟨#[43]⟩, ⟨#[112, 108, 117, 115]⟩), (⟨#[45]⟩, ⟨#[109, 105, 110, 117, 115]⟩), (⟨#[112, 109]⟩, ⟨#[112, 108, 117, 115, 109, 105, 110, 117, 115]⟩)]
def proL : List (ByteArray × ByteArray) := [(⟨#[42]⟩, ⟨#[116, 105, 109, 101, 115]⟩), (⟨#[99, 100, 111, 116]⟩, ⟨#[99, 100, 111, 116]⟩), (⟨#[116, 105, 109, 101, 115]⟩, ⟨#[99, 114, 111, 115, 115]⟩), (⟨#[47]⟩, ⟨#[111, 118, 101, 114]⟩)]
def funL : List (ByteArray × ByteArray) := [(⟨#[115, 105, 110]⟩, ⟨#[115, 105, 110]⟩), (⟨#[99, 111, 115]⟩, ⟨#[99, 111, 115]⟩), (⟨#[116, 97, 110]⟩, ⟨#[116, 97, 110]⟩), (⟨#[108, 111, 103]⟩, ⟨#[108, 111, 103]⟩), (⟨#[108, 110]⟩, ⟨#[108, 110]⟩), (⟨#[101, 120, 112]⟩, ⟨#[101, 120, 112]⟩)]
def inf (p l r : Int) (x : ByteArray × ByteArray) : Rul := ⟨1, x.1, x.2, p, l, r⟩
def prf (p r : Int) (x : ByteArray × ByteArray) : Rul := ⟨2, x.1, x.2, p, 0, r⟩
def d0 : List Rul := [inf 10 10 11 (⟨#[44]⟩, ⟨#[112, 97, 105, 114]⟩)]
def d1 : List Rul := d0 ++ relL.map (inf 20 21 21)
def d2 : List Rul := d1 ++ [inf 30 31 31 (⟨#[116, 111]⟩, ⟨#[116, 111]⟩)]
def d3 : List Rul := d2 ++ sumL.map (inf 40 40 41)
def d4 : List Rul := d3 ++ proL.map (inf 50 50 51)
def pre4 : List Rul := [prf 45 50 (⟨#[45]⟩, ⟨#[110, 101, 103]⟩), prf 45 50 (⟨#[43]⟩, ⟨#[112, 111, 115]⟩), prf 45 50 (⟨#[115, 117, 109]⟩, ⟨#[115, 117, 109]⟩), prf 45 50 (⟨#[112, 114, 111, 100]⟩, ⟨#[112, 114, 111, 100]⟩)]
def d5 : List Rul := d4 ++ pre4
def d6 : List Rul := d5 ++ funL.map (prf 61 61)
def post3 : List Rul := [⟨4, ⟨#[]⟩, ⟨#[112, 114, 111, 100, 117, 99, 116]⟩, 60, 60, 61⟩, ⟨3, ⟨#[33]⟩, ⟨#[102, 97, 99, 116, 111, 114, 105, 97, 108]⟩, 70, 70, 0⟩, ⟨3, ⟨#[39]⟩, ⟨#[112, 114, 105, 109, 101]⟩, 80, 80, 0⟩]
def dRs : List Rul := d6 ++ post3
/-- pairs of strings in a row -/
def PairsAt (w : World) (g : Nat) (ps : List (ByteArray × ByteArray)) : Prop := g < w.heap.size ∧ ∀ (k : Nat) (p : ByteArray × ByteArray), ps[k]? = some p → w.cell? ⟨g, k * 2, none⟩ = some (.string p.1) ∧ w.cell? ⟨g, k * 2 + 1, none⟩ = some (.string p.2)
theorem PairsAt.keep {w w' : World} {g : Nat} {ps : List (ByteArray × ByteArray)} (h : PairsAt w g ps) (hb : Below w.heap.size w w') : PairsAt w' g ps :=
  ⟨Nat.lt_of_lt_of_le h.1 hb.size, fun k p hk => ⟨(hb.cell (p := ⟨g, k * 2, none⟩) h.1).trans (h.2 k p hk).1, (hb.cell (p := ⟨g, k * 2 + 1, none⟩) h.1).trans (h.2 k p hk).2⟩⟩
theorem PairsAt.drew {w : World} {g : Nat} {ps : List (ByteArray × ByteArray)} (h : PairsAt w g ps) : PairsAt w.drew g ps := h
theorem PairsAt.grown {w w' : World} {g : Nat} {ps : List (ByteArray × ByteArray)} {row : Option Nat} (h : PairsAt w g ps) (hg : w.grownBy w' row) (hne : some g ≠ row) : PairsAt w' g ps := by
  have hb : w'.heap[g]? = w.heap[g]? := hg.block g h.1 hne
  refine ⟨Nat.lt_of_lt_of_le h.1 hg.size, fun k p hk => ?_⟩
  have := h.2 k p hk
  unfold World.cell? at this ⊢
  rw [hb]
  exact this
theorem map_take {ps : List (ByteArray × ByteArray)} {k : Nat} {p : ByteArray × ByteArray} (f : ByteArray × ByteArray → Rul) (h : ps[k]? = some p) : (ps.take (k + 1)).map f = (ps.take k).map f ++ [f p] := by
  rw [List.take_add_one, h]; simp
/-- rules that a call has made, with their number -/
def OwnN (w : World) (B : Nat) (v : Value) (n : Nat) (rs : List Rul) : Prop := w.ownsRow B 39 6 v n (cellsR rs) ∧ ∀ r ∈ rs, r.fits
theorem OwnN.keep {w w' : World} {B : Nat} {v : Value} {n : Nat} {rs : List Rul} (h : OwnN w B v n rs) (hb : Below w.heap.size w w') : OwnN w' B v n rs := ⟨own_below h.1 hb, h.2⟩
theorem OwnN.drew {w : World} {B : Nat} {v : Value} {n : Nat} {rs : List Rul} (h : OwnN w B v n rs) : OwnN w.drew B v n rs := h
theorem OwnN.snoc {w : World} {B : Nat} {v : Value} {n : Nat} {rs : List Rul} {r : Rul} (h : w.ownsRow B 39 6 v n (cellsR rs ++ r.c.toList)) (hf : ∀ r ∈ rs, r.fits) (hr : r.fits) : OwnN w B v n (rs ++ [r]) := by
  refine ⟨by rw [cellsR_snoc]; exact h, fun y hy => ?_⟩
  rcases List.mem_append.1 hy with h | h
  · exact hf y h
  · rw [List.mem_singleton.1 h]; exact hr
theorem OwnN.many {w : World} {B : Nat} {v : Value} {n : Nat} {rs more : List Rul} (h : w.ownsRow B 39 6 v n (cellsR rs ++ cellsR more)) (hf : ∀ r ∈ rs, r.fits) (hm : ∀ r ∈ more, r.sym.size ≤ 16 ∧ r.nam.size ≤ 16) : OwnN w B v n (rs ++ more) := by
  refine ⟨by rw [show cellsR (rs ++ more) = cellsR rs ++ cellsR more from by simp [cellsR]]; exact h, fun y hy => ?_⟩
  rcases List.mem_append.1 hy with h | h
  · exact hf y h
  · have := hm y h
    exact ⟨by omega, by omega⟩
theorem inf_fits {ps : List (ByteArray × ByteArray)} (h : ∀ p ∈ ps, p.1.size ≤ 16 ∧ p.2.size ≤ 16) {k : Nat} {x : ByteArray × ByteArray} (hx : ps[k]? = some x) : x.1.size ≤ 9223372036854775807 ∧ x.2.size ≤ 9223372036854775807 := by
  have := h x (List.mem_of_getElem? hx)
  omega
theorem own_one (w : World) (B : Nat) (r : Rul) (hB : B ≤ w.heap.size) (hf : r.fits) : OwnN (w.alloc (.cells r.c 39)) B (.slice (some ⟨w.heap.size, 0, none⟩) 1 1) 1 [r] :=
  ⟨⟨by simp [cellsR], .inr ⟨w.heap.size, 1, r.c, rfl, hB, Blk.new w 39 r.c, Nat.le_refl _, by unfold maxLen; omega, by simp, by simp [cellsR]⟩⟩, fun x hx => by rw [List.mem_singleton.1 hx]; exact hf⟩
def pairC (ps : List (ByteArray × ByteArray)) : List Value := ps.flatMap fun p => [.string p.1, .string p.2]
theorem pairC_at : ∀ (ps : List (ByteArray × ByteArray)) (k : Nat) (p : ByteArray × ByteArray), ps[k]? = some p → (pairC ps)[k * 2]? = some (.string p.1) ∧ (pairC ps)[k * 2 + 1]? = some (.string p.2)
  | [], k, p, h => by simp at h
  | x :: ps, 0, p, h => by
    simp at h
    subst h
    simp [pairC]
  | x :: ps, k + 1, p, h => by
    have := pairC_at ps k p (by simpa using h)
    rw [show pairC (x :: ps) = .string x.1 :: .string x.2 :: pairC ps from rfl, show (k + 1) * 2 = k * 2 + 1 + 1 by omega]
    simpa using this
theorem pairs_new (w : World) (t : TypeId) (cs : Array Value) (ps : List (ByteArray × ByteArray)) (h : cs = (pairC ps).toArray) : PairsAt (w.alloc (.cells cs t)) w.heap.size ps := by
  subst h
  refine ⟨by simp, fun k p hk => ?_⟩
  rw [Blk.cell (Blk.new w t _), Blk.cell (Blk.new w t _)]
  simpa using pairC_at ps k p hk
/-- strings in a row, each one twice -/
def TwinsAt (w : World) (g : Nat) (ps : List (ByteArray × ByteArray)) : Prop := g < w.heap.size ∧ ∀ (k : Nat) (p : ByteArray × ByteArray), ps[k]? = some p → w.cell? ⟨g, k, none⟩ = some (.string p.1) ∧ w.cell? ⟨g, k, none⟩ = some (.string p.2)
theorem TwinsAt.keep {w w' : World} {g : Nat} {ps : List (ByteArray × ByteArray)} (h : TwinsAt w g ps) (hb : Below w.heap.size w w') : TwinsAt w' g ps :=
  ⟨Nat.lt_of_lt_of_le h.1 hb.size, fun k p hk => ⟨(hb.cell (p := ⟨g, k, none⟩) h.1).trans (h.2 k p hk).1, (hb.cell (p := ⟨g, k, none⟩) h.1).trans (h.2 k p hk).2⟩⟩
theorem TwinsAt.drew {w : World} {g : Nat} {ps : List (ByteArray × ByteArray)} (h : TwinsAt w g ps) : TwinsAt w.drew g ps := h
theorem TwinsAt.grown {w w' : World} {g : Nat} {ps : List (ByteArray × ByteArray)} {row : Option Nat} (h : TwinsAt w g ps) (hg : w.grownBy w' row) (hne : some g ≠ row) : TwinsAt w' g ps := by
  have hb : w'.heap[g]? = w.heap[g]? := hg.block g h.1 hne
  refine ⟨Nat.lt_of_lt_of_le h.1 hg.size, fun k p hk => ?_⟩
  have := h.2 k p hk
  unfold World.cell? at this ⊢
  rw [hb]
  exact this
theorem twins_new (w : World) (t : TypeId) (cs : Array Value) (ps : List (ByteArray × ByteArray)) (hp : ∀ p ∈ ps, p.2 = p.1) (h : cs = (ps.map fun p => Value.string p.1).toArray) : TwinsAt (w.alloc (.cells cs t)) w.heap.size ps := by
  subst h
  refine ⟨by simp, fun k p hk => ?_⟩
  rw [Blk.cell (Blk.new w t _), hp p (List.mem_of_getElem? hk)]
  simp [hk]
theorem rel_size : ∀ p ∈ relL, p.1.size ≤ 16 ∧ p.2.size ≤ 16 := by decide
theorem sum_size : ∀ p ∈ sumL, p.1.size ≤ 16 ∧ p.2.size ≤ 16 := by decide
theorem pro_size : ∀ p ∈ proL, p.1.size ≤ 16 ∧ p.2.size ≤ 16 := by decide
theorem fun_size : ∀ p ∈ funL, p.1.size ≤ 16 ∧ p.2.size ≤ 16 := by decide
set_option maxRecDepth 100000 in
set_option maxHeartbeats 2000000 in
theorem rdefault_any (w : World) : Calls Tryd.prog 25 #[] w fun e w' => ∃ v, e = .returned v ∧ OwnRuls w' w.heap.size v dRs ∧ Below w.heap.size w w' := by
  obtain ⟨i0, hi, hz0, hz1, hz2⟩ := info_parts info_rul
  go_enter Tryd.func25, Tryd.ntmps25
  go_wp2_with fail
  refine (rule_any ⟨1, ⟨#[44]⟩, ⟨#[112, 97, 105, 114]⟩, 10, 10, 11⟩ _).mono ?_
  rintro e w1 ⟨rfl, hb⟩
  have H1 := Lib.hid hb
  clear hb
  have hz := H1.out.size
  go_wp2_with fail
  have HP := Lib.hid (show PairsAt ((w1.alloc (.cells #[.int .i64 1, .string ⟨#[44]⟩, .string ⟨#[112, 97, 105, 114]⟩, .int .i64 10, .int .i64 10, .int .i64 11] 39)).alloc (.cells #[.string ⟨#[61]⟩, .string ⟨#[101, 113]⟩, .string ⟨#[60]⟩, .string ⟨#[108, 116]⟩, .string ⟨#[62]⟩, .string ⟨#[103, 116]⟩, .string ⟨#[108, 101]⟩, .string ⟨#[108, 101]⟩, .string ⟨#[103, 101]⟩, .string ⟨#[103, 101]⟩, .string ⟨#[110, 101]⟩, .string ⟨#[110, 101]⟩, .string ⟨#[105, 110]⟩, .string ⟨#[105, 110]⟩] 61)) (w1.heap.size + 1) relL by have := pairs_new (w1.alloc (.cells #[.int .i64 1, .string ⟨#[44]⟩, .string ⟨#[112, 97, 105, 114]⟩, .int .i64 10, .int .i64 10, .int .i64 11] 39)) 61 #[.string ⟨#[61]⟩, .string ⟨#[101, 113]⟩, .string ⟨#[60]⟩, .string ⟨#[108, 116]⟩, .string ⟨#[62]⟩, .string ⟨#[103, 116]⟩, .string ⟨#[108, 101]⟩, .string ⟨#[108, 101]⟩, .string ⟨#[103, 101]⟩, .string ⟨#[103, 101]⟩, .string ⟨#[110, 101]⟩, .string ⟨#[110, 101]⟩, .string ⟨#[105, 110]⟩, .string ⟨#[105, 110]⟩] relL rfl; simpa only [World.size_alloc] using this)
  have HO := Lib.hid ((own_one w1 w.heap.size ⟨1, ⟨#[44]⟩, ⟨#[112, 97, 105, 114]⟩, 10, 10, 11⟩ hz ⟨by decide, by decide⟩).keep (bel_alloc (w1.alloc (.cells #[.int .i64 1, .string ⟨#[44]⟩, .string ⟨#[112, 97, 105, 114]⟩, .int .i64 10, .int .i64 10, .int .i64 11] 39)) (.cells #[.string ⟨#[61]⟩, .string ⟨#[101, 113]⟩, .string ⟨#[60]⟩, .string ⟨#[108, 116]⟩, .string ⟨#[62]⟩, .string ⟨#[103, 116]⟩, .string ⟨#[108, 101]⟩, .string ⟨#[108, 101]⟩, .string ⟨#[103, 101]⟩, .string ⟨#[103, 101]⟩, .string ⟨#[110, 101]⟩, .string ⟨#[110, 101]⟩, .string ⟨#[105, 110]⟩, .string ⟨#[105, 110]⟩] 61)))
  have HB := Lib.hid (show Below w.heap.size w ((w1.alloc (.cells #[.int .i64 1, .string ⟨#[44]⟩, .string ⟨#[112, 97, 105, 114]⟩, .int .i64 10, .int .i64 10, .int .i64 11] 39)).alloc (.cells #[.string ⟨#[61]⟩, .string ⟨#[101, 113]⟩, .string ⟨#[60]⟩, .string ⟨#[108, 116]⟩, .string ⟨#[62]⟩, .string ⟨#[103, 116]⟩, .string ⟨#[108, 101]⟩, .string ⟨#[108, 101]⟩, .string ⟨#[103, 101]⟩, .string ⟨#[103, 101]⟩, .string ⟨#[110, 101]⟩, .string ⟨#[110, 101]⟩, .string ⟨#[105, 110]⟩, .string ⟨#[105, 110]⟩] 61)) from (H1.out.alloc hz _).alloc (H1.out.alloc hz _).size _)
  generalize hwz : ((w1.alloc (.cells #[.int .i64 1, .string ⟨#[44]⟩, .string ⟨#[112, 97, 105, 114]⟩, .int .i64 10, .int .i64 10, .int .i64 11] 39)).alloc (.cells #[.string ⟨#[61]⟩, .string ⟨#[101, 113]⟩, .string ⟨#[60]⟩, .string ⟨#[108, 116]⟩, .string ⟨#[62]⟩, .string ⟨#[103, 116]⟩, .string ⟨#[108, 101]⟩, .string ⟨#[108, 101]⟩, .string ⟨#[103, 101]⟩, .string ⟨#[103, 101]⟩, .string ⟨#[110, 101]⟩, .string ⟨#[110, 101]⟩, .string ⟨#[105, 110]⟩, .string ⟨#[105, 110]⟩] 61)) = wz at *
  clear hwz
  clear H1
  obtain ⟨gp, hgp⟩ : ∃ gp, gp = w1.heap.size + 1 := ⟨_, rfl⟩
  obtain ⟨gv, hgv⟩ : ∃ gv, gv = w1.heap.size := ⟨_, rfl⟩
  rw [← hgp] at HP ⊢
  rw [← hgv] at HO ⊢
  have hgne : gv ≠ gp := by omega
  have hgB : w.heap.size ≤ gv := by omega
  have HO := Lib.hid (show OwnN wz w.heap.size (.slice (some ⟨gv, 0, none⟩) 1 1) 1 d0 from HO.out)
  clear hgp hgv hz
  go_loopw [1, 3] (fun v i wr => ∃ (k gv cap : Nat), k ≤ 7 ∧ i = .int .i64 k ∧ v = .slice (some ⟨gv, 0, none⟩) (1 + k) cap ∧ gv ≠ gp ∧ w.heap.size ≤ gv ∧ Hid (OwnN wr w.heap.size (.slice (some ⟨gv, 0, none⟩) (1 + k) cap) (1 + k) (d0 ++ (relL.take k).map (inf 20 21 21))) ∧ Hid (PairsAt wr gp relL) ∧ Hid (Below w.heap.size w wr)) (fun _ i _ => 7 - (intOf i).toNat)
  case atStart => exact ⟨0, gv, 1, by omega, rfl, rfl, hgne, hgB, Lib.hid (by rw [List.take_zero, List.map_nil, List.append_nil]; exact HO.out), HP, HB⟩
  case round =>
    clear HO HP HB hgne hgB
    obtain ⟨k, gv, cap, hk, rfl, rfl, hgne, hgB, HO, HP, HB⟩ := hrel
    by_cases hlt : k < 7
    · obtain ⟨x, hx⟩ : ∃ x, relL[k]? = some x := ⟨_, List.getElem?_eq_getElem (show k < relL.length from hlt)⟩
      have HX := Lib.hid hx
      have HFX := Lib.hid (show (inf 20 21 21 x).fits from inf_fits rel_size hx)
      have HTK := Lib.hid (map_take (inf 20 21 21) hx).symm
      clear hx
      go_upto_region 6 with (fail)
      refine region_tail (by kernel_rfl) (fun _ _ _ d _ h => by cases d <;> exact h) [(0, .slice (some ⟨gv, 0, none⟩) (1 + k) cap)] 12 _ [.slice (some ⟨gv, 0, none⟩) (1 + k) cap, .slice (some ⟨gp, 0, none⟩) 7 7, .int .i64 k, .pointer (some ⟨gp, k * 2, none⟩), .pointer (some ⟨gp, k * 2, none⟩), .string x.1, .slice (some ⟨gp, 0, none⟩) 7 7, .int .i64 k, .pointer (some ⟨gp, k * 2, none⟩), .pointer (some ⟨gp, k * 2 + 1, none⟩), .string x.2, (inf 20 21 21 x).v] [true, true, true, true, true, true, true, true, true, true, true, true] (fun wq => Hid (OwnN wq w.heap.size (.slice (some ⟨gv, 0, none⟩) (1 + k) cap) (1 + k) (d0 ++ (relL.take k).map (inf 20 21 21))) ∧ Hid (PairsAt wq gp relL) ∧ Hid (Below w.heap.size w wq)) (by kernel_rfl) ⟨⟨_, rfl, by kernel_rfl, by kernel_rfl, .inl ⟨by kernel_rfl, fun _ => by kernel_rfl⟩⟩, trivial⟩ (by kernel_rfl) (by kernel_rfl) (by kernel_rfl) (by kernel_rfl) (by kernel_rfl) (by kernel_rfl) (by kernel_rfl) (by kernel_rfl) (by simp [cutOps, fin, finOn, dstAt, List.range, List.range.loop, Act.put]; rfl) (by kernel_rfl) ⟨HO.out.drew, HP.out.drew, below_drew HB.out⟩ ?_ ?_
      · refine ⟨fun wq hI => ?_, fun wq hI => ?_, fun wq hI => ?_, fun wq hI => ?_, fun wq hI => ?_, fun wq hI => ?_, fun wq hI => ?_, fun wq hI => ?_, fun wq hI => ?_, fun wq hI => ?_, fun wq hI => ?_, fun wq hI => ?_, trivial⟩
        · exact Gives.value (v := .slice (some ⟨gv, 0, none⟩) (1 + k) cap) (w' := wq) (by kernel_rfl) ⟨rfl, hI⟩
        · exact Gives.value (v := .slice (some ⟨gp, 0, none⟩) 7 7) (w' := wq) (by kernel_rfl) ⟨rfl, hI⟩
        · exact Gives.value (v := .int .i64 k) (w' := wq) (by kernel_rfl) ⟨rfl, hI⟩
        · have hkp := hlt
          exact Gives.value (v := .pointer (some ⟨gp, k * 2, none⟩)) (w' := wq) (by simp [execOp, Act.eval, go_sem]; intro h9; omega) ⟨rfl, hI⟩
        · exact Gives.value (v := .pointer (some ⟨gp, k * 2, none⟩)) (w' := wq) (by simp [execOp, Act.eval, go_sem]) ⟨rfl, hI⟩
        · have cJ := (hI.2.1.out.2 k x HX.out).1
          exact Gives.value (v := .string x.1) (w' := wq) (by simp [execOp, Act.eval, go_sem, cJ]) ⟨rfl, hI⟩
        · exact Gives.value (v := .slice (some ⟨gp, 0, none⟩) 7 7) (w' := wq) (by kernel_rfl) ⟨rfl, hI⟩
        · exact Gives.value (v := .int .i64 k) (w' := wq) (by kernel_rfl) ⟨rfl, hI⟩
        · have hkp := hlt
          exact Gives.value (v := .pointer (some ⟨gp, k * 2, none⟩)) (w' := wq) (by simp [execOp, Act.eval, go_sem]; intro h9; omega) ⟨rfl, hI⟩
        · exact Gives.value (v := .pointer (some ⟨gp, k * 2 + 1, none⟩)) (w' := wq) (by simp [execOp, Act.eval, go_sem]) ⟨rfl, hI⟩
        · have cJ := (hI.2.1.out.2 k x HX.out).2
          exact Gives.value (v := .string x.2) (w' := wq) (by simp [execOp, Act.eval, go_sem, cJ]) ⟨rfl, hI⟩
        · refine Gives.call (f := 39) (args := #[.int .i64 1, .string x.1, .string x.2, .int .i64 20, .int .i64 21, .int .i64 21]) (w' := wq) (by kernel_rfl) ((rule_any (inf 20 21 21 x) wq).mono ?_)
          rintro e wa ⟨rfl, hb5⟩
          exact ⟨_, rfl, rfl, hI.1.out.keep hb5, hI.2.1.out.keep hb5, hI.2.2.out.trans (hb5.mono hI.2.2.out.size)⟩
      · intro wq hI
        obtain ⟨JO, JP, JB⟩ := hI
        have HSIZ := Lib.hid JB.out.size
        show wpOps _ _ _ [12, 13, 14] _ _
        refine wpOps_step rfl rfl (Gives.wp (R := fun v w' => v = .slice (some ⟨wq.heap.size, 0, none⟩) 1 1 ∧ w' = wq.alloc (.cells #[.int .i64 (inf 20 21 21 x).kind, .string (inf 20 21 21 x).sym, .string (inf 20 21 21 x).nam, .int .i64 (inf 20 21 21 x).prec, .int .i64 (inf 20 21 21 x).left, .int .i64 (inf 20 21 21 x).right] 39)) (Gives.value (v := .slice (some ⟨wq.heap.size, 0, none⟩) 1 1) (w' := wq.alloc (.cells #[.int .i64 (inf 20 21 21 x).kind, .string (inf 20 21 21 x).sym, .string (inf 20 21 21 x).nam, .int .i64 (inf 20 21 21 x).prec, .int .i64 (inf 20 21 21 x).left, .int .i64 (inf 20 21 21 x).right] 39)) (by simp [execOp, Act.eval, go_sem]) ⟨rfl, rfl⟩) ?_)
        rintro v w' ⟨rfl, rfl⟩
        refine wpOps_step rfl rfl (wp_append_lies _ (.tmp 26) (.tmp 38) 22 rfl (w.heap.size) 39 i0 (zeroR.v) 6 64 Tryd.underlying22 hi hz0 hz1 hz2 rfl (by decide) (.slice (some ⟨gv, 0, none⟩) (1 + k) cap) (1 + k) (cellsR (d0 ++ (relL.take k).map (inf 20 21 21))) rfl (JO.out.1.alloc _) ⟨wq.heap.size, 0, none⟩ 1 1 [.int .i64 (inf 20 21 21 x).kind, .string (inf 20 21 21 x).sym, .string (inf 20 21 21 x).nam, .int .i64 (inf 20 21 21 x).prec, .int .i64 (inf 20 21 21 x).left, .int .i64 (inf 20 21 21 x).right] rfl rfl (cells_new _ _ _) (by intro u hu; simp at hu; first | (subst hu; rfl) | (rcases hu with rfl | rfl <;> rfl) | (rcases hu with rfl | rfl | rfl <;> rfl) | (rcases hu with rfl | rfl | rfl | rfl | rfl | rfl <;> rfl)) (by decide) (by unfold maxLen; omega) (by omega) ?d6 _ rfl ?_)
        case d6 => have := HSIZ.out; simp; omega
        intro g4 cap4 w4 hown4 hgrow4 hg4 hlt4
        refine wpOps_step rfl rfl (Gives.wp (R := fun v w' => v = .slice (some ⟨g4, 0, none⟩) (1 + k + 1) cap4 ∧ w' = w4) (Gives.value (v := .slice (some ⟨g4, 0, none⟩) (1 + k + 1) cap4) (w' := w4) (by simp [execOp, Act.eval, go_sem]) ⟨rfl, rfl⟩) ?_)
        rintro v w' ⟨rfl, rfl⟩
        rename_i hK
        refine hK _ _ ?_
        clear hK
        have h8 := JP.out.1
        have h9 := JB.out.size
        have NB := Lib.hid ((JB.out.alloc JB.out.size _).grown hgrow4 (by simp; omega) (fun k hk => by simp [Value.ownBlock] at hk; omega))
        have NP := Lib.hid ((JP.out.keep (bel_alloc wq _)).grown hgrow4 (by simp [Value.ownBlock]; omega))
        have NO := Lib.hid (OwnN.snoc (r := inf 20 21 21 x) hown4 JO.out.2 HFX.out)
        rw [List.append_assoc, HTK.out] at NO
        have hne4 : g4 ≠ gp ∧ w.heap.size ≤ g4 := by
          rcases hg4 with h | h
          · simp [Value.ownBlock] at h; omega
          · simp at h; omega
        clear hown4 hgrow4 hg4 hlt4 JO JP JB h8 h9
        go_wp2_with fail
        go_roundw
        case rel => exact ⟨k + 1, g4, cap4, by omega, by go_num, rfl, hne4.1, hne4.2, NO, NP, NB⟩
        case measure => simp [intOf]; omega
    · obtain rfl : k = 7 := by omega
      clear hk hlt
      have HO := Lib.hid (show OwnN wr w.heap.size (.slice (some ⟨gv, 0, none⟩) 8 cap) 8 d1 from HO.out)
      clear HP hgne
      go_wp2_with fail
      refine (rule_any ⟨1, ⟨#[116, 111]⟩, ⟨#[116, 111]⟩, 30, 31, 31⟩ _).mono ?_
      rintro e w5 ⟨rfl, hb⟩
      have HO := Lib.hid (HO.out.keep hb)
      have HB := Lib.hid (HB.out.trans (hb.mono HB.out.size))
      clear hb
      have hsz := HB.out.size
      have hown := HO.out.1.alloc (.cells #[.int .i64 1, .string ⟨#[116, 111]⟩, .string ⟨#[116, 111]⟩, .int .i64 30, .int .i64 31, .int .i64 31] 39)
      go_wp2_with (at_builtin; refine wpList_append_lies _ rfl (.tmp 40) (.tmp 42) 22 rfl w.heap.size 39 i0 zeroR.v 6 64 Tryd.underlying22 hi hz0 hz1 hz2 rfl (by decide) (.slice (some ⟨gv, 0, none⟩) 8 cap) 8 _ rfl hown ⟨w5.heap.size, 0, none⟩ 1 1 [.int .i64 1, .string ⟨#[116, 111]⟩, .string ⟨#[116, 111]⟩, .int .i64 30, .int .i64 31, .int .i64 31] rfl rfl (cells_new _ _ _) (by simp [Value.oneCell']) (by decide) (by unfold maxLen; omega) (by omega) (by simp; omega) _ rfl ?_)
      intro g4 cap4 w4 hown4 hgrow4 hg4 hlt4
      have NB := Lib.hid ((HB.out.alloc hsz _).grown hgrow4 (by simp; omega) (fun k hk => by simp [Value.ownBlock] at hk; omega))
      have NO := Lib.hid (show OwnN w4 w.heap.size (.slice (some ⟨g4, 0, none⟩) 9 cap4) 9 d2 from OwnN.many (more := [inf 30 31 31 (⟨#[116, 111]⟩, ⟨#[116, 111]⟩)]) hown4 HO.out.2 (by decide))
      have hgB4 : w.heap.size ≤ g4 := by
        rcases hg4 with h | h
        · simp [Value.ownBlock] at h; omega
        · first | omega | (simp at h; omega)
      clear hown4 hgrow4 hg4 HO HB hown hsz hgB
      go_wp2_with fail
      have HP := Lib.hid (show PairsAt ((w4).alloc (.cells #[.string ⟨#[43]⟩, .string ⟨#[112, 108, 117, 115]⟩, .string ⟨#[45]⟩, .string ⟨#[109, 105, 110, 117, 115]⟩, .string ⟨#[112, 109]⟩, .string ⟨#[112, 108, 117, 115, 109, 105, 110, 117, 115]⟩] 61)) (w4.heap.size) sumL by have := pairs_new (w4) 61 #[.string ⟨#[43]⟩, .string ⟨#[112, 108, 117, 115]⟩, .string ⟨#[45]⟩, .string ⟨#[109, 105, 110, 117, 115]⟩, .string ⟨#[112, 109]⟩, .string ⟨#[112, 108, 117, 115, 109, 105, 110, 117, 115]⟩] sumL rfl; simpa only [World.size_alloc] using this)
      have HO := Lib.hid ((NO.out).keep (bel_alloc (w4) (.cells #[.string ⟨#[43]⟩, .string ⟨#[112, 108, 117, 115]⟩, .string ⟨#[45]⟩, .string ⟨#[109, 105, 110, 117, 115]⟩, .string ⟨#[112, 109]⟩, .string ⟨#[112, 108, 117, 115, 109, 105, 110, 117, 115]⟩] 61)))
      have HB := Lib.hid (show Below w.heap.size w ((w4).alloc (.cells #[.string ⟨#[43]⟩, .string ⟨#[112, 108, 117, 115]⟩, .string ⟨#[45]⟩, .string ⟨#[109, 105, 110, 117, 115]⟩, .string ⟨#[112, 109]⟩, .string ⟨#[112, 108, 117, 115, 109, 105, 110, 117, 115]⟩] 61)) from (NB.out).alloc (NB.out).size _)
      generalize hwz : ((w4).alloc (.cells #[.string ⟨#[43]⟩, .string ⟨#[112, 108, 117, 115]⟩, .string ⟨#[45]⟩, .string ⟨#[109, 105, 110, 117, 115]⟩, .string ⟨#[112, 109]⟩, .string ⟨#[112, 108, 117, 115, 109, 105, 110, 117, 115]⟩] 61)) = wz at *
      clear hwz
      clear NO NB
      obtain ⟨gp, hgp⟩ : ∃ gp, gp = w4.heap.size := ⟨_, rfl⟩
      rw [← hgp] at HP ⊢
      have hgne : g4 ≠ gp := by omega
      have hgB := hgB4
      clear hgp hgB4 hlt4
      go_loopw [1, 5] (fun v i wr => ∃ (k gv cap : Nat), k ≤ 3 ∧ i = .int .i64 k ∧ v = .slice (some ⟨gv, 0, none⟩) (9 + k) cap ∧ gv ≠ gp ∧ w.heap.size ≤ gv ∧ Hid (OwnN wr w.heap.size (.slice (some ⟨gv, 0, none⟩) (9 + k) cap) (9 + k) (d2 ++ (sumL.take k).map (inf 40 40 41))) ∧ Hid (PairsAt wr gp sumL) ∧ Hid (Below w.heap.size w wr)) (fun _ i _ => 3 - (intOf i).toNat)
      case atStart => exact ⟨0, g4, cap4, by omega, rfl, rfl, hgne, hgB, Lib.hid (by rw [List.take_zero, List.map_nil, List.append_nil]; exact HO.out), HP, HB⟩
      case round =>
        clear HO HP HB hgne hgB
        obtain ⟨k, gv, cap, hk, rfl, rfl, hgne, hgB, HO, HP, HB⟩ := hrel
        by_cases hlt : k < 3
        · obtain ⟨x, hx⟩ : ∃ x, sumL[k]? = some x := ⟨_, List.getElem?_eq_getElem (show k < sumL.length from hlt)⟩
          have HX := Lib.hid hx
          have HFX := Lib.hid (show (inf 40 40 41 x).fits from inf_fits sum_size hx)
          have HTK := Lib.hid (map_take (inf 40 40 41) hx).symm
          clear hx
          go_upto_region 12 with (fail)
          refine region_tail (by kernel_rfl) (fun _ _ _ d _ h => by cases d <;> exact h) [(0, .slice (some ⟨gv, 0, none⟩) (9 + k) cap)] 12 _ [.slice (some ⟨gv, 0, none⟩) (9 + k) cap, .slice (some ⟨gp, 0, none⟩) 3 3, .int .i64 k, .pointer (some ⟨gp, k * 2, none⟩), .pointer (some ⟨gp, k * 2, none⟩), .string x.1, .slice (some ⟨gp, 0, none⟩) 3 3, .int .i64 k, .pointer (some ⟨gp, k * 2, none⟩), .pointer (some ⟨gp, k * 2 + 1, none⟩), .string x.2, (inf 40 40 41 x).v] [true, true, true, true, true, true, true, true, true, true, true, true] (fun wq => Hid (OwnN wq w.heap.size (.slice (some ⟨gv, 0, none⟩) (9 + k) cap) (9 + k) (d2 ++ (sumL.take k).map (inf 40 40 41))) ∧ Hid (PairsAt wq gp sumL) ∧ Hid (Below w.heap.size w wq)) (by kernel_rfl) ⟨⟨_, rfl, by kernel_rfl, by kernel_rfl, .inl ⟨by kernel_rfl, fun _ => by kernel_rfl⟩⟩, trivial⟩ (by kernel_rfl) (by kernel_rfl) (by kernel_rfl) (by kernel_rfl) (by kernel_rfl) (by kernel_rfl) (by kernel_rfl) (by kernel_rfl) (by simp [cutOps, fin, finOn, dstAt, List.range, List.range.loop, Act.put]; rfl) (by kernel_rfl) ⟨HO.out.drew, HP.out.drew, below_drew HB.out⟩ ?_ ?_
          · refine ⟨fun wq hI => ?_, fun wq hI => ?_, fun wq hI => ?_, fun wq hI => ?_, fun wq hI => ?_, fun wq hI => ?_, fun wq hI => ?_, fun wq hI => ?_, fun wq hI => ?_, fun wq hI => ?_, fun wq hI => ?_, fun wq hI => ?_, trivial⟩
            · exact Gives.value (v := .slice (some ⟨gv, 0, none⟩) (9 + k) cap) (w' := wq) (by kernel_rfl) ⟨rfl, hI⟩
            · exact Gives.value (v := .slice (some ⟨gp, 0, none⟩) 3 3) (w' := wq) (by kernel_rfl) ⟨rfl, hI⟩
            · exact Gives.value (v := .int .i64 k) (w' := wq) (by kernel_rfl) ⟨rfl, hI⟩
            · have hkp := hlt
              exact Gives.value (v := .pointer (some ⟨gp, k * 2, none⟩)) (w' := wq) (by simp [execOp, Act.eval, go_sem]; intro h9; omega) ⟨rfl, hI⟩
            · exact Gives.value (v := .pointer (some ⟨gp, k * 2, none⟩)) (w' := wq) (by simp [execOp, Act.eval, go_sem]) ⟨rfl, hI⟩
            · have cJ := (hI.2.1.out.2 k x HX.out).1
              exact Gives.value (v := .string x.1) (w' := wq) (by simp [execOp, Act.eval, go_sem, cJ]) ⟨rfl, hI⟩
            · exact Gives.value (v := .slice (some ⟨gp, 0, none⟩) 3 3) (w' := wq) (by kernel_rfl) ⟨rfl, hI⟩
            · exact Gives.value (v := .int .i64 k) (w' := wq) (by kernel_rfl) ⟨rfl, hI⟩
            · have hkp := hlt
              exact Gives.value (v := .pointer (some ⟨gp, k * 2, none⟩)) (w' := wq) (by simp [execOp, Act.eval, go_sem]; intro h9; omega) ⟨rfl, hI⟩
            · exact Gives.value (v := .pointer (some ⟨gp, k * 2 + 1, none⟩)) (w' := wq) (by simp [execOp, Act.eval, go_sem]) ⟨rfl, hI⟩
            · have cJ := (hI.2.1.out.2 k x HX.out).2
              exact Gives.value (v := .string x.2) (w' := wq) (by simp [execOp, Act.eval, go_sem, cJ]) ⟨rfl, hI⟩
            · refine Gives.call (f := 39) (args := #[.int .i64 1, .string x.1, .string x.2, .int .i64 40, .int .i64 40, .int .i64 41]) (w' := wq) (by kernel_rfl) ((rule_any (inf 40 40 41 x) wq).mono ?_)
              rintro e wa ⟨rfl, hb5⟩
              exact ⟨_, rfl, rfl, hI.1.out.keep hb5, hI.2.1.out.keep hb5, hI.2.2.out.trans (hb5.mono hI.2.2.out.size)⟩
          · intro wq hI
            obtain ⟨JO, JP, JB⟩ := hI
            have HSIZ := Lib.hid JB.out.size
            show wpOps _ _ _ [12, 13, 14] _ _
            refine wpOps_step rfl rfl (Gives.wp (R := fun v w' => v = .slice (some ⟨wq.heap.size, 0, none⟩) 1 1 ∧ w' = wq.alloc (.cells #[.int .i64 (inf 40 40 41 x).kind, .string (inf 40 40 41 x).sym, .string (inf 40 40 41 x).nam, .int .i64 (inf 40 40 41 x).prec, .int .i64 (inf 40 40 41 x).left, .int .i64 (inf 40 40 41 x).right] 39)) (Gives.value (v := .slice (some ⟨wq.heap.size, 0, none⟩) 1 1) (w' := wq.alloc (.cells #[.int .i64 (inf 40 40 41 x).kind, .string (inf 40 40 41 x).sym, .string (inf 40 40 41 x).nam, .int .i64 (inf 40 40 41 x).prec, .int .i64 (inf 40 40 41 x).left, .int .i64 (inf 40 40 41 x).right] 39)) (by simp [execOp, Act.eval, go_sem]) ⟨rfl, rfl⟩) ?_)
            rintro v w' ⟨rfl, rfl⟩
            refine wpOps_step rfl rfl (wp_append_lies _ (.tmp 54) (.tmp 66) 22 rfl (w.heap.size) 39 i0 (zeroR.v) 6 64 Tryd.underlying22 hi hz0 hz1 hz2 rfl (by decide) (.slice (some ⟨gv, 0, none⟩) (9 + k) cap) (9 + k) (cellsR (d2 ++ (sumL.take k).map (inf 40 40 41))) rfl (JO.out.1.alloc _) ⟨wq.heap.size, 0, none⟩ 1 1 [.int .i64 (inf 40 40 41 x).kind, .string (inf 40 40 41 x).sym, .string (inf 40 40 41 x).nam, .int .i64 (inf 40 40 41 x).prec, .int .i64 (inf 40 40 41 x).left, .int .i64 (inf 40 40 41 x).right] rfl rfl (cells_new _ _ _) (by intro u hu; simp at hu; first | (subst hu; rfl) | (rcases hu with rfl | rfl <;> rfl) | (rcases hu with rfl | rfl | rfl <;> rfl) | (rcases hu with rfl | rfl | rfl | rfl | rfl | rfl <;> rfl)) (by decide) (by unfold maxLen; omega) (by omega) ?d6 _ rfl ?_)
            case d6 => have := HSIZ.out; simp; omega
            intro g4 cap4 w4 hown4 hgrow4 hg4 hlt4
            refine wpOps_step rfl rfl (Gives.wp (R := fun v w' => v = .slice (some ⟨g4, 0, none⟩) (9 + k + 1) cap4 ∧ w' = w4) (Gives.value (v := .slice (some ⟨g4, 0, none⟩) (9 + k + 1) cap4) (w' := w4) (by simp [execOp, Act.eval, go_sem]) ⟨rfl, rfl⟩) ?_)
            rintro v w' ⟨rfl, rfl⟩
            rename_i hK
            refine hK _ _ ?_
            clear hK
            have h8 := JP.out.1
            have h9 := JB.out.size
            have NB := Lib.hid ((JB.out.alloc JB.out.size _).grown hgrow4 (by simp; omega) (fun k hk => by simp [Value.ownBlock] at hk; omega))
            have NP := Lib.hid ((JP.out.keep (bel_alloc wq _)).grown hgrow4 (by simp [Value.ownBlock]; omega))
            have NO := Lib.hid (OwnN.snoc (r := inf 40 40 41 x) hown4 JO.out.2 HFX.out)
            rw [List.append_assoc, HTK.out] at NO
            have hne4 : g4 ≠ gp ∧ w.heap.size ≤ g4 := by
              rcases hg4 with h | h
              · simp [Value.ownBlock] at h; omega
              · simp at h; omega
            clear hown4 hgrow4 hg4 hlt4 JO JP JB h8 h9
            go_wp2_with fail
            go_roundw
            case rel => exact ⟨k + 1, g4, cap4, by omega, by go_num, rfl, hne4.1, hne4.2, NO, NP, NB⟩
            case measure => simp [intOf]; omega
        · obtain rfl : k = 3 := by omega
          clear hk hlt
          have HO := Lib.hid (show OwnN wr w.heap.size (.slice (some ⟨gv, 0, none⟩) 12 cap) 12 d3 from HO.out)
          clear HP hgne
          rw [show ((3 : Nat) : Int) = 3 from rfl]
          go_wp2_with fail
          have HP := Lib.hid (show PairsAt ((wr).alloc (.cells #[.string ⟨#[42]⟩, .string ⟨#[116, 105, 109, 101, 115]⟩, .string ⟨#[99, 100, 111, 116]⟩, .string ⟨#[99, 100, 111, 116]⟩, .string ⟨#[116, 105, 109, 101, 115]⟩, .string ⟨#[99, 114, 111, 115, 115]⟩, .string ⟨#[47]⟩, .string ⟨#[111, 118, 101, 114]⟩] 61)) (wr.heap.size) proL by have := pairs_new (wr) 61 #[.string ⟨#[42]⟩, .string ⟨#[116, 105, 109, 101, 115]⟩, .string ⟨#[99, 100, 111, 116]⟩, .string ⟨#[99, 100, 111, 116]⟩, .string ⟨#[116, 105, 109, 101, 115]⟩, .string ⟨#[99, 114, 111, 115, 115]⟩, .string ⟨#[47]⟩, .string ⟨#[111, 118, 101, 114]⟩] proL rfl; simpa only [World.size_alloc] using this)
          have HO2 := Lib.hid ((HO.out).keep (bel_alloc (wr) (.cells #[.string ⟨#[42]⟩, .string ⟨#[116, 105, 109, 101, 115]⟩, .string ⟨#[99, 100, 111, 116]⟩, .string ⟨#[99, 100, 111, 116]⟩, .string ⟨#[116, 105, 109, 101, 115]⟩, .string ⟨#[99, 114, 111, 115, 115]⟩, .string ⟨#[47]⟩, .string ⟨#[111, 118, 101, 114]⟩] 61)))
          have HB2 := Lib.hid (show Below w.heap.size w ((wr).alloc (.cells #[.string ⟨#[42]⟩, .string ⟨#[116, 105, 109, 101, 115]⟩, .string ⟨#[99, 100, 111, 116]⟩, .string ⟨#[99, 100, 111, 116]⟩, .string ⟨#[116, 105, 109, 101, 115]⟩, .string ⟨#[99, 114, 111, 115, 115]⟩, .string ⟨#[47]⟩, .string ⟨#[111, 118, 101, 114]⟩] 61)) from (HB.out).alloc (HB.out).size _)
          generalize hwz : ((wr).alloc (.cells #[.string ⟨#[42]⟩, .string ⟨#[116, 105, 109, 101, 115]⟩, .string ⟨#[99, 100, 111, 116]⟩, .string ⟨#[99, 100, 111, 116]⟩, .string ⟨#[116, 105, 109, 101, 115]⟩, .string ⟨#[99, 114, 111, 115, 115]⟩, .string ⟨#[47]⟩, .string ⟨#[111, 118, 101, 114]⟩] 61)) = wz at *
          clear hwz
          obtain ⟨gp, hgp⟩ : ∃ gp, gp = wr.heap.size := ⟨_, rfl⟩
          rw [← hgp] at HP ⊢
          have hgne : gv ≠ gp := by
            rcases HO.out.1.2 with ⟨_, h⟩ | ⟨g, c, cur, h, _, hh, _⟩
            · cases h
            · simp at h
              have := Blk.lt (show Blk wr g 39 cur from hh)
              omega
          have HO := HO2
          have HB := HB2
          clear HO2 HB2 hgp
          go_loopw [1, 7] (fun v i wr => ∃ (k gv cap : Nat), k ≤ 4 ∧ i = .int .i64 k ∧ v = .slice (some ⟨gv, 0, none⟩) (12 + k) cap ∧ gv ≠ gp ∧ w.heap.size ≤ gv ∧ Hid (OwnN wr w.heap.size (.slice (some ⟨gv, 0, none⟩) (12 + k) cap) (12 + k) (d3 ++ (proL.take k).map (inf 50 50 51))) ∧ Hid (PairsAt wr gp proL) ∧ Hid (Below w.heap.size w wr)) (fun _ i _ => 4 - (intOf i).toNat)
          case atStart => exact ⟨0, gv, cap, by omega, rfl, rfl, hgne, hgB, Lib.hid (by rw [List.take_zero, List.map_nil, List.append_nil]; exact HO.out), HP, HB⟩
          case round =>
            clear HO HP HB hgne hgB
            obtain ⟨k, gv, cap, hk, rfl, rfl, hgne, hgB, HO, HP, HB⟩ := hrel
            by_cases hlt : k < 4
            · obtain ⟨x, hx⟩ : ∃ x, proL[k]? = some x := ⟨_, List.getElem?_eq_getElem (show k < proL.length from hlt)⟩
              have HX := Lib.hid hx
              have HFX := Lib.hid (show (inf 50 50 51 x).fits from inf_fits pro_size hx)
              have HTK := Lib.hid (map_take (inf 50 50 51) hx).symm
              clear hx
              go_upto_region 17 with (fail)
              refine region_tail (by kernel_rfl) (fun _ _ _ d _ h => by cases d <;> exact h) [(0, .slice (some ⟨gv, 0, none⟩) (12 + k) cap)] 12 _ [.slice (some ⟨gv, 0, none⟩) (12 + k) cap, .slice (some ⟨gp, 0, none⟩) 4 4, .int .i64 k, .pointer (some ⟨gp, k * 2, none⟩), .pointer (some ⟨gp, k * 2, none⟩), .string x.1, .slice (some ⟨gp, 0, none⟩) 4 4, .int .i64 k, .pointer (some ⟨gp, k * 2, none⟩), .pointer (some ⟨gp, k * 2 + 1, none⟩), .string x.2, (inf 50 50 51 x).v] [true, true, true, true, true, true, true, true, true, true, true, true] (fun wq => Hid (OwnN wq w.heap.size (.slice (some ⟨gv, 0, none⟩) (12 + k) cap) (12 + k) (d3 ++ (proL.take k).map (inf 50 50 51))) ∧ Hid (PairsAt wq gp proL) ∧ Hid (Below w.heap.size w wq)) (by kernel_rfl) ⟨⟨_, rfl, by kernel_rfl, by kernel_rfl, .inl ⟨by kernel_rfl, fun _ => by kernel_rfl⟩⟩, trivial⟩ (by kernel_rfl) (by kernel_rfl) (by kernel_rfl) (by kernel_rfl) (by kernel_rfl) (by kernel_rfl) (by kernel_rfl) (by kernel_rfl) (by simp [cutOps, fin, finOn, dstAt, List.range, List.range.loop, Act.put]; rfl) (by kernel_rfl) ⟨HO.out.drew, HP.out.drew, below_drew HB.out⟩ ?_ ?_
              · refine ⟨fun wq hI => ?_, fun wq hI => ?_, fun wq hI => ?_, fun wq hI => ?_, fun wq hI => ?_, fun wq hI => ?_, fun wq hI => ?_, fun wq hI => ?_, fun wq hI => ?_, fun wq hI => ?_, fun wq hI => ?_, fun wq hI => ?_, trivial⟩
                · exact Gives.value (v := .slice (some ⟨gv, 0, none⟩) (12 + k) cap) (w' := wq) (by kernel_rfl) ⟨rfl, hI⟩
                · exact Gives.value (v := .slice (some ⟨gp, 0, none⟩) 4 4) (w' := wq) (by kernel_rfl) ⟨rfl, hI⟩
                · exact Gives.value (v := .int .i64 k) (w' := wq) (by kernel_rfl) ⟨rfl, hI⟩
                · have hkp := hlt
                  exact Gives.value (v := .pointer (some ⟨gp, k * 2, none⟩)) (w' := wq) (by simp [execOp, Act.eval, go_sem]; intro h9; omega) ⟨rfl, hI⟩
                · exact Gives.value (v := .pointer (some ⟨gp, k * 2, none⟩)) (w' := wq) (by simp [execOp, Act.eval, go_sem]) ⟨rfl, hI⟩
                · have cJ := (hI.2.1.out.2 k x HX.out).1
                  exact Gives.value (v := .string x.1) (w' := wq) (by simp [execOp, Act.eval, go_sem, cJ]) ⟨rfl, hI⟩
                · exact Gives.value (v := .slice (some ⟨gp, 0, none⟩) 4 4) (w' := wq) (by kernel_rfl) ⟨rfl, hI⟩
                · exact Gives.value (v := .int .i64 k) (w' := wq) (by kernel_rfl) ⟨rfl, hI⟩
                · have hkp := hlt
                  exact Gives.value (v := .pointer (some ⟨gp, k * 2, none⟩)) (w' := wq) (by simp [execOp, Act.eval, go_sem]; intro h9; omega) ⟨rfl, hI⟩
                · exact Gives.value (v := .pointer (some ⟨gp, k * 2 + 1, none⟩)) (w' := wq) (by simp [execOp, Act.eval, go_sem]) ⟨rfl, hI⟩
                · have cJ := (hI.2.1.out.2 k x HX.out).2
                  exact Gives.value (v := .string x.2) (w' := wq) (by simp [execOp, Act.eval, go_sem, cJ]) ⟨rfl, hI⟩
                · refine Gives.call (f := 39) (args := #[.int .i64 1, .string x.1, .string x.2, .int .i64 50, .int .i64 50, .int .i64 51]) (w' := wq) (by kernel_rfl) ((rule_any (inf 50 50 51 x) wq).mono ?_)
                  rintro e wa ⟨rfl, hb5⟩
                  exact ⟨_, rfl, rfl, hI.1.out.keep hb5, hI.2.1.out.keep hb5, hI.2.2.out.trans (hb5.mono hI.2.2.out.size)⟩
              · intro wq hI
                obtain ⟨JO, JP, JB⟩ := hI
                have HSIZ := Lib.hid JB.out.size
                show wpOps _ _ _ [12, 13, 14] _ _
                refine wpOps_step rfl rfl (Gives.wp (R := fun v w' => v = .slice (some ⟨wq.heap.size, 0, none⟩) 1 1 ∧ w' = wq.alloc (.cells #[.int .i64 (inf 50 50 51 x).kind, .string (inf 50 50 51 x).sym, .string (inf 50 50 51 x).nam, .int .i64 (inf 50 50 51 x).prec, .int .i64 (inf 50 50 51 x).left, .int .i64 (inf 50 50 51 x).right] 39)) (Gives.value (v := .slice (some ⟨wq.heap.size, 0, none⟩) 1 1) (w' := wq.alloc (.cells #[.int .i64 (inf 50 50 51 x).kind, .string (inf 50 50 51 x).sym, .string (inf 50 50 51 x).nam, .int .i64 (inf 50 50 51 x).prec, .int .i64 (inf 50 50 51 x).left, .int .i64 (inf 50 50 51 x).right] 39)) (by simp [execOp, Act.eval, go_sem]) ⟨rfl, rfl⟩) ?_)
                rintro v w' ⟨rfl, rfl⟩
                refine wpOps_step rfl rfl (wp_append_lies _ (.tmp 79) (.tmp 91) 22 rfl (w.heap.size) 39 i0 (zeroR.v) 6 64 Tryd.underlying22 hi hz0 hz1 hz2 rfl (by decide) (.slice (some ⟨gv, 0, none⟩) (12 + k) cap) (12 + k) (cellsR (d3 ++ (proL.take k).map (inf 50 50 51))) rfl (JO.out.1.alloc _) ⟨wq.heap.size, 0, none⟩ 1 1 [.int .i64 (inf 50 50 51 x).kind, .string (inf 50 50 51 x).sym, .string (inf 50 50 51 x).nam, .int .i64 (inf 50 50 51 x).prec, .int .i64 (inf 50 50 51 x).left, .int .i64 (inf 50 50 51 x).right] rfl rfl (cells_new _ _ _) (by intro u hu; simp at hu; first | (subst hu; rfl) | (rcases hu with rfl | rfl <;> rfl) | (rcases hu with rfl | rfl | rfl <;> rfl) | (rcases hu with rfl | rfl | rfl | rfl | rfl | rfl <;> rfl)) (by decide) (by unfold maxLen; omega) (by omega) ?d6 _ rfl ?_)
                case d6 => have := HSIZ.out; simp; omega
                intro g4 cap4 w4 hown4 hgrow4 hg4 hlt4
                refine wpOps_step rfl rfl (Gives.wp (R := fun v w' => v = .slice (some ⟨g4, 0, none⟩) (12 + k + 1) cap4 ∧ w' = w4) (Gives.value (v := .slice (some ⟨g4, 0, none⟩) (12 + k + 1) cap4) (w' := w4) (by simp [execOp, Act.eval, go_sem]) ⟨rfl, rfl⟩) ?_)
                rintro v w' ⟨rfl, rfl⟩
                rename_i hK
                refine hK _ _ ?_
                clear hK
                have h8 := JP.out.1
                have h9 := JB.out.size
                have NB := Lib.hid ((JB.out.alloc JB.out.size _).grown hgrow4 (by simp; omega) (fun k hk => by simp [Value.ownBlock] at hk; omega))
                have NP := Lib.hid ((JP.out.keep (bel_alloc wq _)).grown hgrow4 (by simp [Value.ownBlock]; omega))
                have NO := Lib.hid (OwnN.snoc (r := inf 50 50 51 x) hown4 JO.out.2 HFX.out)
                rw [List.append_assoc, HTK.out] at NO
                have hne4 : g4 ≠ gp ∧ w.heap.size ≤ g4 := by
                  rcases hg4 with h | h
                  · simp [Value.ownBlock] at h; omega
                  · simp at h; omega
                clear hown4 hgrow4 hg4 hlt4 JO JP JB h8 h9
                go_wp2_with fail
                go_roundw
                case rel => exact ⟨k + 1, g4, cap4, by omega, by go_num, rfl, hne4.1, hne4.2, NO, NP, NB⟩
                case measure => simp [intOf]; omega
            · obtain rfl : k = 4 := by omega
              clear hk hlt
              have HO := Lib.hid (show OwnN wr w.heap.size (.slice (some ⟨gv, 0, none⟩) 16 cap) 16 d4 from HO.out)
              clear HP hgne
              go_wp2_with fail
              refine (rule_any ⟨2, ⟨#[45]⟩, ⟨#[110, 101, 103]⟩, 45, 0, 50⟩ _).mono ?_
              rintro e w5 ⟨rfl, hb⟩
              have HO := Lib.hid (HO.out.keep hb)
              have HB := Lib.hid (HB.out.trans (hb.mono HB.out.size))
              clear hb
              go_wp2_with fail
              refine (rule_any ⟨2, ⟨#[43]⟩, ⟨#[112, 111, 115]⟩, 45, 0, 50⟩ _).mono ?_
              rintro e w6 ⟨rfl, hb⟩
              have HO := Lib.hid (HO.out.keep hb)
              have HB := Lib.hid (HB.out.trans (hb.mono HB.out.size))
              clear hb
              go_wp2_with fail
              refine (rule_any ⟨2, ⟨#[115, 117, 109]⟩, ⟨#[115, 117, 109]⟩, 45, 0, 50⟩ _).mono ?_
              rintro e w7 ⟨rfl, hb⟩
              have HO := Lib.hid (HO.out.keep hb)
              have HB := Lib.hid (HB.out.trans (hb.mono HB.out.size))
              clear hb
              go_wp2_with fail
              refine (rule_any ⟨2, ⟨#[112, 114, 111, 100]⟩, ⟨#[112, 114, 111, 100]⟩, 45, 0, 50⟩ _).mono ?_
              rintro e w8 ⟨rfl, hb⟩
              have HO := Lib.hid (HO.out.keep hb)
              have HB := Lib.hid (HB.out.trans (hb.mono HB.out.size))
              clear hb
              have hsz := HB.out.size
              have hown := HO.out.1.alloc (.cells #[.int .i64 2, .string ⟨#[45]⟩, .string ⟨#[110, 101, 103]⟩, .int .i64 45, .int .i64 0, .int .i64 50, .int .i64 2, .string ⟨#[43]⟩, .string ⟨#[112, 111, 115]⟩, .int .i64 45, .int .i64 0, .int .i64 50, .int .i64 2, .string ⟨#[115, 117, 109]⟩, .string ⟨#[115, 117, 109]⟩, .int .i64 45, .int .i64 0, .int .i64 50, .int .i64 2, .string ⟨#[112, 114, 111, 100]⟩, .string ⟨#[112, 114, 111, 100]⟩, .int .i64 45, .int .i64 0, .int .i64 50] 39)
              go_wp2_with (at_builtin; refine wpList_append_lies _ rfl (.tmp 93) (.tmp 98) 22 rfl w.heap.size 39 i0 zeroR.v 6 64 Tryd.underlying22 hi hz0 hz1 hz2 rfl (by decide) (.slice (some ⟨gv, 0, none⟩) 16 cap) 16 _ rfl hown ⟨w8.heap.size, 0, none⟩ 4 4 [.int .i64 2, .string ⟨#[45]⟩, .string ⟨#[110, 101, 103]⟩, .int .i64 45, .int .i64 0, .int .i64 50, .int .i64 2, .string ⟨#[43]⟩, .string ⟨#[112, 111, 115]⟩, .int .i64 45, .int .i64 0, .int .i64 50, .int .i64 2, .string ⟨#[115, 117, 109]⟩, .string ⟨#[115, 117, 109]⟩, .int .i64 45, .int .i64 0, .int .i64 50, .int .i64 2, .string ⟨#[112, 114, 111, 100]⟩, .string ⟨#[112, 114, 111, 100]⟩, .int .i64 45, .int .i64 0, .int .i64 50] rfl rfl (cells_new _ _ _) (by simp [Value.oneCell']) (by decide) (by unfold maxLen; omega) (by omega) (by simp; omega) _ rfl ?_)
              intro g4 cap4 w4 hown4 hgrow4 hg4 hlt4
              have NB := Lib.hid ((HB.out.alloc hsz _).grown hgrow4 (by simp; omega) (fun k hk => by simp [Value.ownBlock] at hk; omega))
              have NO := Lib.hid (show OwnN w4 w.heap.size (.slice (some ⟨g4, 0, none⟩) 20 cap4) 20 d5 from OwnN.many (more := pre4) hown4 HO.out.2 (by decide))
              have hgB4 : w.heap.size ≤ g4 := by
                rcases hg4 with h | h
                · simp [Value.ownBlock] at h; omega
                · first | omega | (simp at h; omega)
              clear hown4 hgrow4 hg4 HO HB hown hsz hgB
              go_wp2_with fail
              have HP := Lib.hid (show TwinsAt ((w4).alloc (.cells #[.string ⟨#[115, 105, 110]⟩, .string ⟨#[99, 111, 115]⟩, .string ⟨#[116, 97, 110]⟩, .string ⟨#[108, 111, 103]⟩, .string ⟨#[108, 110]⟩, .string ⟨#[101, 120, 112]⟩] 9)) (w4.heap.size) funL by have := twins_new (w4) 9 #[.string ⟨#[115, 105, 110]⟩, .string ⟨#[99, 111, 115]⟩, .string ⟨#[116, 97, 110]⟩, .string ⟨#[108, 111, 103]⟩, .string ⟨#[108, 110]⟩, .string ⟨#[101, 120, 112]⟩] funL (by decide) rfl; simpa only [World.size_alloc] using this)
              have HO := Lib.hid ((NO.out).keep (bel_alloc (w4) (.cells #[.string ⟨#[115, 105, 110]⟩, .string ⟨#[99, 111, 115]⟩, .string ⟨#[116, 97, 110]⟩, .string ⟨#[108, 111, 103]⟩, .string ⟨#[108, 110]⟩, .string ⟨#[101, 120, 112]⟩] 9)))
              have HB := Lib.hid (show Below w.heap.size w ((w4).alloc (.cells #[.string ⟨#[115, 105, 110]⟩, .string ⟨#[99, 111, 115]⟩, .string ⟨#[116, 97, 110]⟩, .string ⟨#[108, 111, 103]⟩, .string ⟨#[108, 110]⟩, .string ⟨#[101, 120, 112]⟩] 9)) from (NB.out).alloc (NB.out).size _)
              generalize hwz : ((w4).alloc (.cells #[.string ⟨#[115, 105, 110]⟩, .string ⟨#[99, 111, 115]⟩, .string ⟨#[116, 97, 110]⟩, .string ⟨#[108, 111, 103]⟩, .string ⟨#[108, 110]⟩, .string ⟨#[101, 120, 112]⟩] 9)) = wz at *
              clear hwz
              clear NO NB
              obtain ⟨gp, hgp⟩ : ∃ gp, gp = w4.heap.size := ⟨_, rfl⟩
              rw [← hgp] at HP ⊢
              have hgne : g4 ≠ gp := by omega
              have hgB := hgB4
              clear hgp hgB4 hlt4
              go_loopw [1, 9] (fun v i wr => ∃ (k gv cap : Nat), k ≤ 6 ∧ i = .int .i64 k ∧ v = .slice (some ⟨gv, 0, none⟩) (20 + k) cap ∧ gv ≠ gp ∧ w.heap.size ≤ gv ∧ Hid (OwnN wr w.heap.size (.slice (some ⟨gv, 0, none⟩) (20 + k) cap) (20 + k) (d5 ++ (funL.take k).map (prf 61 61))) ∧ Hid (TwinsAt wr gp funL) ∧ Hid (Below w.heap.size w wr)) (fun _ i _ => 6 - (intOf i).toNat)
              case atStart => exact ⟨0, g4, cap4, by omega, rfl, rfl, hgne, hgB, Lib.hid (by rw [List.take_zero, List.map_nil, List.append_nil]; exact HO.out), HP, HB⟩
              case round =>
                clear HO HP HB hgne hgB
                obtain ⟨k, gv, cap, hk, rfl, rfl, hgne, hgB, HO, HP, HB⟩ := hrel
                by_cases hlt : k < 6
                · obtain ⟨x, hx⟩ : ∃ x, funL[k]? = some x := ⟨_, List.getElem?_eq_getElem (show k < funL.length from hlt)⟩
                  have HX := Lib.hid hx
                  have HFX := Lib.hid (show (prf 61 61 x).fits from inf_fits fun_size hx)
                  have HTK := Lib.hid (map_take (prf 61 61) hx).symm
                  clear hx
                  go_upto_region 23 with (fail)
                  refine region_tail (by kernel_rfl) (fun _ _ _ d _ h => by cases d <;> exact h) [(0, .slice (some ⟨gv, 0, none⟩) (20 + k) cap)] 10 _ [.slice (some ⟨gv, 0, none⟩) (20 + k) cap, .slice (some ⟨gp, 0, none⟩) 6 6, .int .i64 k, .pointer (some ⟨gp, k, none⟩), .string x.1, .slice (some ⟨gp, 0, none⟩) 6 6, .int .i64 k, .pointer (some ⟨gp, k, none⟩), .string x.2, (prf 61 61 x).v] [true, true, true, true, true, true, true, true, true, true] (fun wq => Hid (OwnN wq w.heap.size (.slice (some ⟨gv, 0, none⟩) (20 + k) cap) (20 + k) (d5 ++ (funL.take k).map (prf 61 61))) ∧ Hid (TwinsAt wq gp funL) ∧ Hid (Below w.heap.size w wq)) (by kernel_rfl) ⟨⟨_, rfl, by kernel_rfl, by kernel_rfl, .inl ⟨by kernel_rfl, fun _ => by kernel_rfl⟩⟩, trivial⟩ (by kernel_rfl) (by kernel_rfl) (by kernel_rfl) (by kernel_rfl) (by kernel_rfl) (by kernel_rfl) (by kernel_rfl) (by kernel_rfl) (by simp [cutOps, fin, finOn, dstAt, List.range, List.range.loop, Act.put]; rfl) (by kernel_rfl) ⟨HO.out.drew, HP.out.drew, below_drew HB.out⟩ ?_ ?_
                  · refine ⟨fun wq hI => ?_, fun wq hI => ?_, fun wq hI => ?_, fun wq hI => ?_, fun wq hI => ?_, fun wq hI => ?_, fun wq hI => ?_, fun wq hI => ?_, fun wq hI => ?_, fun wq hI => ?_, trivial⟩
                    · exact Gives.value (v := .slice (some ⟨gv, 0, none⟩) (20 + k) cap) (w' := wq) (by kernel_rfl) ⟨rfl, hI⟩
                    · exact Gives.value (v := .slice (some ⟨gp, 0, none⟩) 6 6) (w' := wq) (by kernel_rfl) ⟨rfl, hI⟩
                    · exact Gives.value (v := .int .i64 k) (w' := wq) (by kernel_rfl) ⟨rfl, hI⟩
                    · have hkp := hlt
                      exact Gives.value (v := .pointer (some ⟨gp, k, none⟩)) (w' := wq) (by simp [execOp, Act.eval, go_sem]; intro h9; omega) ⟨rfl, hI⟩
                    · have cJ := (hI.2.1.out.2 k x HX.out).1
                      exact Gives.value (v := .string x.1) (w' := wq) (by simp [execOp, Act.eval, go_sem, cJ]) ⟨rfl, hI⟩
                    · exact Gives.value (v := .slice (some ⟨gp, 0, none⟩) 6 6) (w' := wq) (by kernel_rfl) ⟨rfl, hI⟩
                    · exact Gives.value (v := .int .i64 k) (w' := wq) (by kernel_rfl) ⟨rfl, hI⟩
                    · have hkp := hlt
                      exact Gives.value (v := .pointer (some ⟨gp, k, none⟩)) (w' := wq) (by simp [execOp, Act.eval, go_sem]; intro h9; omega) ⟨rfl, hI⟩
                    · have cJ := (hI.2.1.out.2 k x HX.out).2
                      exact Gives.value (v := .string x.2) (w' := wq) (by simp [execOp, Act.eval, go_sem, cJ]) ⟨rfl, hI⟩
                    · refine Gives.call (f := 39) (args := #[.int .i64 2, .string x.1, .string x.2, .int .i64 61, .int .i64 0, .int .i64 61]) (w' := wq) (by kernel_rfl) ((rule_any (prf 61 61 x) wq).mono ?_)
                      rintro e wa ⟨rfl, hb5⟩
                      exact ⟨_, rfl, rfl, hI.1.out.keep hb5, hI.2.1.out.keep hb5, hI.2.2.out.trans (hb5.mono hI.2.2.out.size)⟩
                  · intro wq hI
                    obtain ⟨JO, JP, JB⟩ := hI
                    have HSIZ := Lib.hid JB.out.size
                    show wpOps _ _ _ [10, 11, 12] _ _
                    refine wpOps_step rfl rfl (Gives.wp (R := fun v w' => v = .slice (some ⟨wq.heap.size, 0, none⟩) 1 1 ∧ w' = wq.alloc (.cells #[.int .i64 (prf 61 61 x).kind, .string (prf 61 61 x).sym, .string (prf 61 61 x).nam, .int .i64 (prf 61 61 x).prec, .int .i64 (prf 61 61 x).left, .int .i64 (prf 61 61 x).right] 39)) (Gives.value (v := .slice (some ⟨wq.heap.size, 0, none⟩) 1 1) (w' := wq.alloc (.cells #[.int .i64 (prf 61 61 x).kind, .string (prf 61 61 x).sym, .string (prf 61 61 x).nam, .int .i64 (prf 61 61 x).prec, .int .i64 (prf 61 61 x).left, .int .i64 (prf 61 61 x).right] 39)) (by simp [execOp, Act.eval, go_sem]) ⟨rfl, rfl⟩) ?_)
                    rintro v w' ⟨rfl, rfl⟩
                    refine wpOps_step rfl rfl (wp_append_lies _ (.tmp 107) (.tmp 117) 22 rfl (w.heap.size) 39 i0 (zeroR.v) 6 64 Tryd.underlying22 hi hz0 hz1 hz2 rfl (by decide) (.slice (some ⟨gv, 0, none⟩) (20 + k) cap) (20 + k) (cellsR (d5 ++ (funL.take k).map (prf 61 61))) rfl (JO.out.1.alloc _) ⟨wq.heap.size, 0, none⟩ 1 1 [.int .i64 (prf 61 61 x).kind, .string (prf 61 61 x).sym, .string (prf 61 61 x).nam, .int .i64 (prf 61 61 x).prec, .int .i64 (prf 61 61 x).left, .int .i64 (prf 61 61 x).right] rfl rfl (cells_new _ _ _) (by intro u hu; simp at hu; first | (subst hu; rfl) | (rcases hu with rfl | rfl <;> rfl) | (rcases hu with rfl | rfl | rfl <;> rfl) | (rcases hu with rfl | rfl | rfl | rfl | rfl | rfl <;> rfl)) (by decide) (by unfold maxLen; omega) (by omega) ?d6 _ rfl ?_)
                    case d6 => have := HSIZ.out; simp; omega
                    intro g4 cap4 w4 hown4 hgrow4 hg4 hlt4
                    refine wpOps_step rfl rfl (Gives.wp (R := fun v w' => v = .slice (some ⟨g4, 0, none⟩) (20 + k + 1) cap4 ∧ w' = w4) (Gives.value (v := .slice (some ⟨g4, 0, none⟩) (20 + k + 1) cap4) (w' := w4) (by simp [execOp, Act.eval, go_sem]) ⟨rfl, rfl⟩) ?_)
                    rintro v w' ⟨rfl, rfl⟩
                    rename_i hK
                    refine hK _ _ ?_
                    clear hK
                    have h8 := JP.out.1
                    have h9 := JB.out.size
                    have NB := Lib.hid ((JB.out.alloc JB.out.size _).grown hgrow4 (by simp; omega) (fun k hk => by simp [Value.ownBlock] at hk; omega))
                    have NP := Lib.hid ((JP.out.keep (bel_alloc wq _)).grown hgrow4 (by simp [Value.ownBlock]; omega))
                    have NO := Lib.hid (OwnN.snoc (r := prf 61 61 x) hown4 JO.out.2 HFX.out)
                    rw [List.append_assoc, HTK.out] at NO
                    have hne4 : g4 ≠ gp ∧ w.heap.size ≤ g4 := by
                      rcases hg4 with h | h
                      · simp [Value.ownBlock] at h; omega
                      · simp at h; omega
                    clear hown4 hgrow4 hg4 hlt4 JO JP JB h8 h9
                    go_wp2_with fail
                    go_roundw
                    case rel => exact ⟨k + 1, g4, cap4, by omega, by go_num, rfl, hne4.1, hne4.2, NO, NP, NB⟩
                    case measure => simp [intOf]; omega
                · obtain rfl : k = 6 := by omega
                  clear hk hlt
                  have HO := Lib.hid (show OwnN wr w.heap.size (.slice (some ⟨gv, 0, none⟩) 26 cap) 26 d6 from HO.out)
                  clear HP hgne
                  go_wp2_with fail
                  refine (rule_any ⟨4, ⟨#[]⟩, ⟨#[112, 114, 111, 100, 117, 99, 116]⟩, 60, 60, 61⟩ _).mono ?_
                  rintro e w5 ⟨rfl, hb⟩
                  have HO := Lib.hid (HO.out.keep hb)
                  have HB := Lib.hid (HB.out.trans (hb.mono HB.out.size))
                  clear hb
                  go_wp2_with fail
                  refine (rule_any ⟨3, ⟨#[33]⟩, ⟨#[102, 97, 99, 116, 111, 114, 105, 97, 108]⟩, 70, 70, 0⟩ _).mono ?_
                  rintro e w6 ⟨rfl, hb⟩
                  have HO := Lib.hid (HO.out.keep hb)
                  have HB := Lib.hid (HB.out.trans (hb.mono HB.out.size))
                  clear hb
                  go_wp2_with fail
                  refine (rule_any ⟨3, ⟨#[39]⟩, ⟨#[112, 114, 105, 109, 101]⟩, 80, 80, 0⟩ _).mono ?_
                  rintro e w7 ⟨rfl, hb⟩
                  have HO := Lib.hid (HO.out.keep hb)
                  have HB := Lib.hid (HB.out.trans (hb.mono HB.out.size))
                  clear hb
                  have hsz := HB.out.size
                  have hown := HO.out.1.alloc (.cells #[.int .i64 4, .string ⟨#[]⟩, .string ⟨#[112, 114, 111, 100, 117, 99, 116]⟩, .int .i64 60, .int .i64 60, .int .i64 61, .int .i64 3, .string ⟨#[33]⟩, .string ⟨#[102, 97, 99, 116, 111, 114, 105, 97, 108]⟩, .int .i64 70, .int .i64 70, .int .i64 0, .int .i64 3, .string ⟨#[39]⟩, .string ⟨#[112, 114, 105, 109, 101]⟩, .int .i64 80, .int .i64 80, .int .i64 0] 39)
                  go_wp2_with (at_builtin; refine wpList_append_lies _ rfl (.tmp 119) (.tmp 123) 22 rfl w.heap.size 39 i0 zeroR.v 6 64 Tryd.underlying22 hi hz0 hz1 hz2 rfl (by decide) (.slice (some ⟨gv, 0, none⟩) 26 cap) 26 _ rfl hown ⟨w7.heap.size, 0, none⟩ 3 3 [.int .i64 4, .string ⟨#[]⟩, .string ⟨#[112, 114, 111, 100, 117, 99, 116]⟩, .int .i64 60, .int .i64 60, .int .i64 61, .int .i64 3, .string ⟨#[33]⟩, .string ⟨#[102, 97, 99, 116, 111, 114, 105, 97, 108]⟩, .int .i64 70, .int .i64 70, .int .i64 0, .int .i64 3, .string ⟨#[39]⟩, .string ⟨#[112, 114, 105, 109, 101]⟩, .int .i64 80, .int .i64 80, .int .i64 0] rfl rfl (cells_new _ _ _) (by simp [Value.oneCell']) (by decide) (by unfold maxLen; omega) (by omega) (by simp; omega) _ rfl ?_)
                  intro g4 cap4 w4 hown4 hgrow4 hg4 hlt4
                  have NB := Lib.hid ((HB.out.alloc hsz _).grown hgrow4 (by simp; omega) (fun k hk => by simp [Value.ownBlock] at hk; omega))
                  have NO := Lib.hid (show OwnN w4 w.heap.size (.slice (some ⟨g4, 0, none⟩) 29 cap4) 29 dRs from OwnN.many (more := post3) hown4 HO.out.2 (by decide))
                  have hgB4 : w.heap.size ≤ g4 := by
                    rcases hg4 with h | h
                    · simp [Value.ownBlock] at h; omega
                    · first | omega | (simp at h; omega)
                  clear hown4 hgrow4 hg4 HO HB hown hsz hgB
                  go_wp2_with fail
                  go_ret
                  exact ⟨_, rfl, NO.out, NB.out⟩
end Go.Proofs.YtgkfmeagpmjcoaaDoor
