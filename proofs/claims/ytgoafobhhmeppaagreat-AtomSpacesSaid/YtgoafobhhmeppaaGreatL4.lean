/- The default dictionary: the reference. -/
import Derived.Test.YtgoafobhhmeppaaGreatL3
namespace Go.Proofs.YtgoafobhhmeppaaGreat
open Go.RowKit
def entL (es : List Ent) : List Value := es.flatMap fun e => [.string e.text, .int .i64 e.cls, .bool e.lim, .bool e.stc]
theorem entL_len (es : List Ent) : (entL es).length = es.length * 4 := by
  induction es with
  | nil => rfl
  | cons e r ih => rw [entL, List.flatMap_cons, List.length_append, ← entL, ih]; simp; omega
theorem entL_app (a b : List Ent) : entL (a ++ b) = entL a ++ entL b := by unfold entL; rw [List.flatMap_append]
theorem entL_at : ∀ (es : List Ent) (k : Nat) (e : Ent), es[k]? = some e → ∀ (j : Nat) v, e.c[j]? = some v → (entL es)[k * 4 + j]? = some v
  | [], k, e, h, _, _, _ => by simp at h
  | x :: r, 0, e, h, j, v, hj => by
    obtain rfl : x = e := by simpa using h
    rw [entL, List.flatMap_cons, List.getElem?_append_left]
    · have : x.c.toList = [.string x.text, .int .i64 x.cls, .bool x.lim, .bool x.stc] := rfl
      rw [← this, Array.getElem?_toList]
      simpa using hj
    · have h4 : j < 4 := (Array.getElem?_eq_some_iff.1 hj).1
      simp
      omega
  | x :: r, k + 1, e, h, j, v, hj => by
    rw [entL, List.flatMap_cons, ← entL, List.getElem?_append_right (by simp; omega)]
    have := entL_at r k e (by simpa using h) j v hj
    rw [← this]
    congr 1
    simp
    omega
/-- entries that a call has made -/
def OwnEs (w : World) (B : Nat) (v : Value) (es : List Ent) : Prop := w.ownsRow B 78 4 v es.length (entL es)
theorem OwnEs.keep {w w' : World} {B : Nat} {v : Value} {es : List Ent} (h : OwnEs w B v es) (hb : Below w.heap.size w w') : OwnEs w' B v es := own_below h hb
theorem OwnEs.form {w : World} {B : Nat} {v : Value} {es : List Ent} (h : OwnEs w B v es) : ∃ A cap, v = .slice A es.length cap ∧ es.length ≤ cap ∧ cap ≤ 9223372036854775807 := by
  obtain ⟨h1, h2⟩ := h
  rcases h2 with ⟨rfl, h0⟩ | ⟨g, cap, cur, rfl, hg, hb, hn, hc, hs, ht⟩
  · rw [h0]; exact ⟨none, 0, rfl, by omega, by omega⟩
  · exact ⟨_, cap, rfl, hn, by unfold maxLen at hc; omega⟩
theorem OwnEs.ents {w : World} {B : Nat} {A : Option Addr} {cap : Nat} {es : List Ent} (h : OwnEs w B (.slice A es.length cap) es) (hf : ∀ e ∈ es, e.text.size ≤ 9223372036854775807) : EntsAt w A es := fun k e hk => by
  have hl := (List.getElem?_eq_some_iff.1 hk).1
  refine ⟨hf e (List.mem_of_getElem? hk), ?_⟩
  obtain ⟨g, cap', hv, _, hlt⟩ := World.ownsRow.form h (by omega)
  have hA : A = some ⟨g, 0, none⟩ := by injection hv
  subst hA
  refine ⟨⟨g, 0, none⟩, rfl, hlt, fun j v hj => ?_⟩
  exact World.ownsRow.cells h (g := g) rfl _ _ (entL_at es k e hk j v hj)
theorem ents_snoc {w : World} {B n : Nat} {v : Value} {es : List Ent} {e : Ent} (hn : es.length = n) (h : w.ownsRow B 78 4 v (n + 1) (entL es ++ [.string e.text, .int .i64 e.cls, .bool e.lim, .bool e.stc])) : OwnEs w B v (es ++ [e]) := by
  unfold OwnEs
  rw [List.length_append, hn, entL_app]
  exact h
theorem info_ent : (Tryz.prog.info? 78).map (fun i => (i.zero, i.size, i.bytes)) = some (some (.agg #[.string ⟨#[]⟩, .int .i64 0, .bool false, .bool false]), 4, 32) := by kernel_rfl
def StrsO (w : World) (A : Option Addr) (ss : List ByteArray) : Prop := ∀ (j : Nat) (s : ByteArray), ss[j]? = some s → ∃ g : Nat, A = some ⟨g, 0, none⟩ ∧ g < w.heap.size ∧ w.cell? ⟨g, j, none⟩ = some (.string s)
theorem StrsO.keep {w w' : World} {A : Option Addr} {ss : List ByteArray} (h : StrsO w A ss) (hb : Below w.heap.size w w') : StrsO w' A ss := fun j s hj => by
  obtain ⟨g, h1, h2, h3⟩ := h j s hj
  exact ⟨g, h1, Nat.lt_of_lt_of_le h2 hb.size, (hb.cell (p := ⟨g, j, none⟩) h2).trans h3⟩
theorem strs_blk {w : World} {g : Nat} {ss : List ByteArray} {cs : Array Value} {t : TypeId} (h : Blk w g t cs) (hc : cs = (ss.map Value.string).toArray) : StrsO w (some ⟨g, 0, none⟩) ss := fun j x hj => by
  subst hc
  refine ⟨g, rfl, h.lt, ?_⟩
  rw [h.cell]
  simp [hj]
def EntsP (es : List Ent) (w : World) (e : Ending) (w' : World) : Prop := ∃ v, e = .returned v ∧ OwnEs w' w.heap.size v es ∧ Below w.heap.size w w'
set_option maxRecDepth 100000 in
set_option maxHeartbeats 800000 in
theorem group_any (cls : Int) (lim stc : Bool) (A : Option Addr) (cap : Nat) (ss : List ByteArray) (w : World) (hS : StrsO w A ss) (hn : ss.length ≤ 1000) : Calls Tryz.prog 27 #[.int .i64 cls, .bool lim, .bool stc, .slice A ss.length cap] w (EntsP (ss.map fun s => ⟨s, cls, lim, stc⟩) w) := by
  obtain ⟨i0, hi, hz0, hz1, hz2⟩ := info_parts info_ent
  have HS := Lib.hid hS
  clear hS
  go_enter Tryz.func27, Tryz.ntmps27
  go_wp2_with fail
  go_loopw [9, 10] (fun v i wr => ∃ k : Nat, k ≤ ss.length ∧ i = .int .i64 k ∧ Hid (OwnEs wr w.heap.size v ((ss.map fun s => (⟨s, cls, lim, stc⟩ : Ent)).take k)) ∧ Hid (Below w.heap.size w wr)) (fun _ i _ => ss.length - (intOf i).toNat)
  case atStart => exact ⟨0, by omega, rfl, World.ownsRow_nil _ _ _ _, Below.refl _ _⟩
  case round =>
    obtain ⟨k, hk, rfl, HO, HB⟩ := hrel
    by_cases hlt : k < ss.length
    · obtain ⟨s, hx⟩ : ∃ s, ss[k]? = some s := ⟨_, List.getElem?_eq_getElem hlt⟩
      obtain ⟨g, rfl, hg, c0⟩ := (HS.out.keep HB.out) k s hx
      have HST := Lib.hid (show (ss.map fun s => (⟨s, cls, lim, stc⟩ : Ent)).take (k + 1) = (ss.map fun s => (⟨s, cls, lim, stc⟩ : Ent)).take k ++ [⟨s, cls, lim, stc⟩] by rw [List.take_add_one, List.getElem?_map, hx]; rfl)
      have hln : ((ss.map fun s => (⟨s, cls, lim, stc⟩ : Ent)).take k).length ≤ k := by simp; omega
      clear hx
      generalize (ss.map fun s => (⟨s, cls, lim, stc⟩ : Ent)).take k = acc at *
      obtain ⟨A5, cap5, rfl, hcl5, hcap5⟩ := HO.out.form
      have hown := (show wr.ownsRow w.heap.size 78 4 (.slice A5 acc.length cap5) acc.length (entL acc) from HO.out).alloc (.cells #[.string s, .int .i64 cls, .bool lim, .bool stc] 78)
      have HBL := Lib.hid (World.ownsRow.lt (show wr.ownsRow w.heap.size 78 4 (.slice A5 acc.length cap5) acc.length (entL acc) from HO.out))
      have HSZ := Lib.hid HB.out.size
      go_wp2_with (at_builtin; refine wpList_append_own _ rfl (.tmp 17) (.tmp 26) 28 rfl w.heap.size 78 i0 (.agg #[.string ⟨#[]⟩, .int .i64 0, .bool false, .bool false]) 4 32 Tryz.underlying28 hi hz0 hz1 hz2 rfl (by decide) _ _ _ rfl hown ⟨wr.heap.size, 0, none⟩ 1 1 [.string s, .int .i64 cls, .bool lim, .bool stc] rfl rfl (cells_new _ _ _) ?c2a ?c3a ?c4a ?c5a ?_)
      case c2a => intro u hu; simp at hu; rcases hu with rfl | rfl | rfl | rfl <;> rfl
      case c3a => unfold maxLen; omega
      case c4a => omega
      case c5a => have := HSZ.out; simp; omega
      intro v' w4 hown' hgrow _
      have NB := Lib.hid ((HB.out.alloc HB.out.size (.cells #[.string s, .int .i64 cls, .bool lim, .bool stc] 78)).grown hgrow (by have := HSZ.out; simp; omega) (fun k hk => (HBL.out k hk).1))
      have NO := Lib.hid (ents_snoc (e := ⟨s, cls, lim, stc⟩) rfl hown')
      clear hown hown' hgrow HO HB hln
      go_wp2_with fail
      go_roundw
      case rel => exact ⟨k + 1, by omega, by go_num, by rw [HST.out]; exact NO, NB⟩
      case measure => simp [intOf]; omega
    · obtain rfl : k = ss.length := by omega
      have HT := Lib.hid (show (ss.map fun s => (⟨s, cls, lim, stc⟩ : Ent)).take ss.length = ss.map fun s => (⟨s, cls, lim, stc⟩ : Ent) from List.take_of_length_le (by simp))
      rw [HT.out] at HO
      go_wp2_with fail
      go_ret
      exact ⟨_, rfl, HO.out, HB.out⟩
theorem reads_own {w : World} {B : Nat} {A : Option Addr} {cap : Nat} {es : List Ent} (h : OwnEs w B (.slice A es.length cap) es) : Reads w w.heap.size 4 A es.length (entL es) := Reads.of_own h
theorem ents_one (es : List Ent) : ∀ u ∈ entL es, u.oneCell' = true := by
  intro u hu
  obtain ⟨e, _, hu⟩ := List.mem_flatMap.1 hu
  simp at hu
  rcases hu with rfl | rfl | rfl | rfl <;> rfl
theorem ents_app {w : World} {B : Nat} {v : Value} {a b : List Ent} (h : w.ownsRow B 78 4 v (a.length + b.length) (entL a ++ entL b)) : OwnEs w B v (a ++ b) := by
  unfold OwnEs
  rw [List.length_append, entL_app]
  exact h
theorem below_own {w w' : World} {v : Value} (hb : Below w.heap.size w w') (hg : ∀ k, v.ownBlock = some k → w.heap.size ≤ k) {w2 : World} (hgr : w'.grownBy w2 v.ownBlock) : Below w.heap.size w w2 := hb.grown hgr hb.size hg
def gr0 : List ByteArray := [⟨#[43]⟩, ⟨#[45]⟩, ⟨#[42]⟩, ⟨#[99, 100, 111, 116]⟩, ⟨#[116, 105, 109, 101, 115]⟩, ⟨#[112, 109]⟩, ⟨#[99, 117, 112]⟩, ⟨#[99, 97, 112]⟩]
def ge0 : List Ent := gr0.map fun s => ⟨s, 2, false, false⟩
def gr1 : List ByteArray := [⟨#[61]⟩, ⟨#[60]⟩, ⟨#[62]⟩, ⟨#[58]⟩, ⟨#[126]⟩, ⟨#[108, 101]⟩, ⟨#[103, 101]⟩, ⟨#[110, 101]⟩, ⟨#[116, 111]⟩, ⟨#[105, 110]⟩, ⟨#[115, 117, 98, 115, 101, 116]⟩]
def ge1 : List Ent := gr1.map fun s => ⟨s, 3, false, false⟩
def gr2 : List ByteArray := [⟨#[44]⟩, ⟨#[59]⟩]
def ge2 : List Ent := gr2.map fun s => ⟨s, 6, false, false⟩
def gr3 : List ByteArray := [⟨#[33]⟩]
def ge3 : List Ent := gr3.map fun s => ⟨s, 5, false, false⟩
def gr4 : List ByteArray := [⟨#[100, 111, 116, 115]⟩]
def ge4 : List Ent := gr4.map fun s => ⟨s, 7, false, false⟩
def gr5 : List ByteArray := [⟨#[115, 117, 109]⟩, ⟨#[112, 114, 111, 100]⟩]
def ge5 : List Ent := gr5.map fun s => ⟨s, 1, true, true⟩
def gr6 : List ByteArray := [⟨#[105, 110, 116]⟩]
def ge6 : List Ent := gr6.map fun s => ⟨s, 1, false, true⟩
def gr7 : List ByteArray := [⟨#[108, 105, 109]⟩, ⟨#[109, 97, 120]⟩, ⟨#[109, 105, 110]⟩]
def ge7 : List Ent := gr7.map fun s => ⟨s, 1, true, false⟩
def gr8 : List ByteArray := [⟨#[115, 105, 110]⟩, ⟨#[99, 111, 115]⟩, ⟨#[116, 97, 110]⟩, ⟨#[108, 111, 103]⟩, ⟨#[108, 110]⟩, ⟨#[101, 120, 112]⟩]
def ge8 : List Ent := gr8.map fun s => ⟨s, 1, false, false⟩
def df0 : List Ent := []
def df1 : List Ent := df0 ++ ge0
def df2 : List Ent := df1 ++ ge1
def df3 : List Ent := df2 ++ ge2
def df4 : List Ent := df3 ++ ge3
def df5 : List Ent := df4 ++ ge4
def df6 : List Ent := df5 ++ ge5
def df7 : List Ent := df6 ++ ge6
def df8 : List Ent := df7 ++ ge7
def df9 : List Ent := df8 ++ ge8
theorem OwnEs.lt {w : World} {B : Nat} {v : Value} {es : List Ent} (h : OwnEs w B v es) : ∀ k, v.ownBlock = some k → B ≤ k := fun k hk => (World.ownsRow.lt h k hk).1
set_option maxRecDepth 100000 in
set_option maxHeartbeats 4000000 in
theorem default_any (w : World) : Calls Tryz.prog 11 #[] w (EntsP df9 w) := by
  obtain ⟨i0, hi, hz0, hz1, hz2⟩ := info_parts info_ent
  go_enter Tryz.func11, Tryz.ntmps11
  have HO := Lib.hid (show OwnEs w w.heap.size (.slice none 0 0) df0 from World.ownsRow_nil _ _ _ _)
  have HB := Lib.hid (Below.refl w.heap.size w)
  go_wp2_with fail
  have K0 := Lib.hid (Blk.new w 9 #[.string ⟨#[43]⟩, .string ⟨#[45]⟩, .string ⟨#[42]⟩, .string ⟨#[99, 100, 111, 116]⟩, .string ⟨#[116, 105, 109, 101, 115]⟩, .string ⟨#[112, 109]⟩, .string ⟨#[99, 117, 112]⟩, .string ⟨#[99, 97, 112]⟩])
  have HB := Lib.hid (HB.out.alloc HB.out.size (.cells #[.string ⟨#[43]⟩, .string ⟨#[45]⟩, .string ⟨#[42]⟩, .string ⟨#[99, 100, 111, 116]⟩, .string ⟨#[116, 105, 109, 101, 115]⟩, .string ⟨#[112, 109]⟩, .string ⟨#[99, 117, 112]⟩, .string ⟨#[99, 97, 112]⟩] 9))
  have HO := Lib.hid (HO.out.keep (bel_alloc w (.cells #[.string ⟨#[43]⟩, .string ⟨#[45]⟩, .string ⟨#[42]⟩, .string ⟨#[99, 100, 111, 116]⟩, .string ⟨#[116, 105, 109, 101, 115]⟩, .string ⟨#[112, 109]⟩, .string ⟨#[99, 117, 112]⟩, .string ⟨#[99, 97, 112]⟩] 9)))
  generalize w.alloc (.cells #[.string ⟨#[43]⟩, .string ⟨#[45]⟩, .string ⟨#[42]⟩, .string ⟨#[99, 100, 111, 116]⟩, .string ⟨#[116, 105, 109, 101, 115]⟩, .string ⟨#[112, 109]⟩, .string ⟨#[99, 117, 112]⟩, .string ⟨#[99, 97, 112]⟩] 9) = wa0 at *
  refine (group_any 2 false false (some ⟨w.heap.size, 0, none⟩) 8 gr0 wa0 (strs_blk K0.out rfl) (by decide)).mono ?_
  rintro e wb0 ⟨v0, rfl, ho, hb⟩
  have HG := Lib.hid (show OwnEs wb0 wa0.heap.size v0 ge0 from ho)
  have HO := Lib.hid (HO.out.keep hb)
  have HB := Lib.hid (HB.out.trans (hb.mono HB.out.size))
  clear ho hb K0
  obtain ⟨A0, cap0, rfl, _, _⟩ := HG.out.form
  have hr := reads_own HG.out
  have hone := ents_one ge0
  have hown := (show wb0.ownsRow w.heap.size 78 4 _ df0.length (entL df0) from HO.out)
  have HLT := Lib.hid HO.out.lt
  go_wp2_with (at_builtin; refine wpList_append_any _ rfl (.tmp 2) (.tmp 4) 28 rfl w.heap.size 78 i0 (.agg #[.string ⟨#[]⟩, .int .i64 0, .bool false, .bool false]) 4 32 Tryz.underlying28 hi hz0 hz1 hz2 rfl (by decide) _ df0.length _ rfl hown wb0.heap.size A0 ge0.length cap0 _ rfl hr hone (by unfold maxLen; decide) (by decide) HB.out.size ?_)
  intro u0 w0 hown' hgrow _
  have HO := Lib.hid (show OwnEs w0 w.heap.size u0 df1 from ents_app hown')
  have HB := Lib.hid (below_own HB.out HLT.out hgrow)
  clear hr hone hown hown' hgrow HG HLT
  go_wp2_with fail
  have K1 := Lib.hid (Blk.new w0 9 #[.string ⟨#[61]⟩, .string ⟨#[60]⟩, .string ⟨#[62]⟩, .string ⟨#[58]⟩, .string ⟨#[126]⟩, .string ⟨#[108, 101]⟩, .string ⟨#[103, 101]⟩, .string ⟨#[110, 101]⟩, .string ⟨#[116, 111]⟩, .string ⟨#[105, 110]⟩, .string ⟨#[115, 117, 98, 115, 101, 116]⟩])
  have HB := Lib.hid (HB.out.alloc HB.out.size (.cells #[.string ⟨#[61]⟩, .string ⟨#[60]⟩, .string ⟨#[62]⟩, .string ⟨#[58]⟩, .string ⟨#[126]⟩, .string ⟨#[108, 101]⟩, .string ⟨#[103, 101]⟩, .string ⟨#[110, 101]⟩, .string ⟨#[116, 111]⟩, .string ⟨#[105, 110]⟩, .string ⟨#[115, 117, 98, 115, 101, 116]⟩] 9))
  have HO := Lib.hid (HO.out.keep (bel_alloc w0 (.cells #[.string ⟨#[61]⟩, .string ⟨#[60]⟩, .string ⟨#[62]⟩, .string ⟨#[58]⟩, .string ⟨#[126]⟩, .string ⟨#[108, 101]⟩, .string ⟨#[103, 101]⟩, .string ⟨#[110, 101]⟩, .string ⟨#[116, 111]⟩, .string ⟨#[105, 110]⟩, .string ⟨#[115, 117, 98, 115, 101, 116]⟩] 9)))
  generalize w0.alloc (.cells #[.string ⟨#[61]⟩, .string ⟨#[60]⟩, .string ⟨#[62]⟩, .string ⟨#[58]⟩, .string ⟨#[126]⟩, .string ⟨#[108, 101]⟩, .string ⟨#[103, 101]⟩, .string ⟨#[110, 101]⟩, .string ⟨#[116, 111]⟩, .string ⟨#[105, 110]⟩, .string ⟨#[115, 117, 98, 115, 101, 116]⟩] 9) = wa1 at *
  refine (group_any 3 false false (some ⟨w0.heap.size, 0, none⟩) 11 gr1 wa1 (strs_blk K1.out rfl) (by decide)).mono ?_
  rintro e wb1 ⟨v1, rfl, ho, hb⟩
  have HG := Lib.hid (show OwnEs wb1 wa1.heap.size v1 ge1 from ho)
  have HO := Lib.hid (HO.out.keep hb)
  have HB := Lib.hid (HB.out.trans (hb.mono HB.out.size))
  clear ho hb K1
  obtain ⟨A1, cap1, rfl, _, _⟩ := HG.out.form
  have hr := reads_own HG.out
  have hone := ents_one ge1
  have hown := (show wb1.ownsRow w.heap.size 78 4 _ df1.length (entL df1) from HO.out)
  have HLT := Lib.hid HO.out.lt
  go_wp2_with (at_builtin; refine wpList_append_any _ rfl (.tmp 6) (.tmp 8) 28 rfl w.heap.size 78 i0 (.agg #[.string ⟨#[]⟩, .int .i64 0, .bool false, .bool false]) 4 32 Tryz.underlying28 hi hz0 hz1 hz2 rfl (by decide) _ df1.length _ rfl hown wb1.heap.size A1 ge1.length cap1 _ rfl hr hone (by unfold maxLen; decide) (by decide) HB.out.size ?_)
  intro u1 w1 hown' hgrow _
  have HO := Lib.hid (show OwnEs w1 w.heap.size u1 df2 from ents_app hown')
  have HB := Lib.hid (below_own HB.out HLT.out hgrow)
  clear hr hone hown hown' hgrow HG HLT
  go_wp2_with fail
  have K2 := Lib.hid (Blk.new w1 9 #[.string ⟨#[44]⟩, .string ⟨#[59]⟩])
  have HB := Lib.hid (HB.out.alloc HB.out.size (.cells #[.string ⟨#[44]⟩, .string ⟨#[59]⟩] 9))
  have HO := Lib.hid (HO.out.keep (bel_alloc w1 (.cells #[.string ⟨#[44]⟩, .string ⟨#[59]⟩] 9)))
  generalize w1.alloc (.cells #[.string ⟨#[44]⟩, .string ⟨#[59]⟩] 9) = wa2 at *
  refine (group_any 6 false false (some ⟨w1.heap.size, 0, none⟩) 2 gr2 wa2 (strs_blk K2.out rfl) (by decide)).mono ?_
  rintro e wb2 ⟨v2, rfl, ho, hb⟩
  have HG := Lib.hid (show OwnEs wb2 wa2.heap.size v2 ge2 from ho)
  have HO := Lib.hid (HO.out.keep hb)
  have HB := Lib.hid (HB.out.trans (hb.mono HB.out.size))
  clear ho hb K2
  obtain ⟨A2, cap2, rfl, _, _⟩ := HG.out.form
  have hr := reads_own HG.out
  have hone := ents_one ge2
  have hown := (show wb2.ownsRow w.heap.size 78 4 _ df2.length (entL df2) from HO.out)
  have HLT := Lib.hid HO.out.lt
  go_wp2_with (at_builtin; refine wpList_append_any _ rfl (.tmp 10) (.tmp 12) 28 rfl w.heap.size 78 i0 (.agg #[.string ⟨#[]⟩, .int .i64 0, .bool false, .bool false]) 4 32 Tryz.underlying28 hi hz0 hz1 hz2 rfl (by decide) _ df2.length _ rfl hown wb2.heap.size A2 ge2.length cap2 _ rfl hr hone (by unfold maxLen; decide) (by decide) HB.out.size ?_)
  intro u2 w2 hown' hgrow _
  have HO := Lib.hid (show OwnEs w2 w.heap.size u2 df3 from ents_app hown')
  have HB := Lib.hid (below_own HB.out HLT.out hgrow)
  clear hr hone hown hown' hgrow HG HLT
  go_wp2_with fail
  have K3 := Lib.hid (Blk.new w2 9 #[.string ⟨#[33]⟩])
  have HB := Lib.hid (HB.out.alloc HB.out.size (.cells #[.string ⟨#[33]⟩] 9))
  have HO := Lib.hid (HO.out.keep (bel_alloc w2 (.cells #[.string ⟨#[33]⟩] 9)))
  generalize w2.alloc (.cells #[.string ⟨#[33]⟩] 9) = wa3 at *
  refine (group_any 5 false false (some ⟨w2.heap.size, 0, none⟩) 1 gr3 wa3 (strs_blk K3.out rfl) (by decide)).mono ?_
  rintro e wb3 ⟨v3, rfl, ho, hb⟩
  have HG := Lib.hid (show OwnEs wb3 wa3.heap.size v3 ge3 from ho)
  have HO := Lib.hid (HO.out.keep hb)
  have HB := Lib.hid (HB.out.trans (hb.mono HB.out.size))
  clear ho hb K3
  obtain ⟨A3, cap3, rfl, _, _⟩ := HG.out.form
  have hr := reads_own HG.out
  have hone := ents_one ge3
  have hown := (show wb3.ownsRow w.heap.size 78 4 _ df3.length (entL df3) from HO.out)
  have HLT := Lib.hid HO.out.lt
  go_wp2_with (at_builtin; refine wpList_append_any _ rfl (.tmp 14) (.tmp 16) 28 rfl w.heap.size 78 i0 (.agg #[.string ⟨#[]⟩, .int .i64 0, .bool false, .bool false]) 4 32 Tryz.underlying28 hi hz0 hz1 hz2 rfl (by decide) _ df3.length _ rfl hown wb3.heap.size A3 ge3.length cap3 _ rfl hr hone (by unfold maxLen; decide) (by decide) HB.out.size ?_)
  intro u3 w3 hown' hgrow _
  have HO := Lib.hid (show OwnEs w3 w.heap.size u3 df4 from ents_app hown')
  have HB := Lib.hid (below_own HB.out HLT.out hgrow)
  clear hr hone hown hown' hgrow HG HLT
  go_wp2_with fail
  have K4 := Lib.hid (Blk.new w3 9 #[.string ⟨#[100, 111, 116, 115]⟩])
  have HB := Lib.hid (HB.out.alloc HB.out.size (.cells #[.string ⟨#[100, 111, 116, 115]⟩] 9))
  have HO := Lib.hid (HO.out.keep (bel_alloc w3 (.cells #[.string ⟨#[100, 111, 116, 115]⟩] 9)))
  generalize w3.alloc (.cells #[.string ⟨#[100, 111, 116, 115]⟩] 9) = wa4 at *
  refine (group_any 7 false false (some ⟨w3.heap.size, 0, none⟩) 1 gr4 wa4 (strs_blk K4.out rfl) (by decide)).mono ?_
  rintro e wb4 ⟨v4, rfl, ho, hb⟩
  have HG := Lib.hid (show OwnEs wb4 wa4.heap.size v4 ge4 from ho)
  have HO := Lib.hid (HO.out.keep hb)
  have HB := Lib.hid (HB.out.trans (hb.mono HB.out.size))
  clear ho hb K4
  obtain ⟨A4, cap4, rfl, _, _⟩ := HG.out.form
  have hr := reads_own HG.out
  have hone := ents_one ge4
  have hown := (show wb4.ownsRow w.heap.size 78 4 _ df4.length (entL df4) from HO.out)
  have HLT := Lib.hid HO.out.lt
  go_wp2_with (at_builtin; refine wpList_append_any _ rfl (.tmp 18) (.tmp 20) 28 rfl w.heap.size 78 i0 (.agg #[.string ⟨#[]⟩, .int .i64 0, .bool false, .bool false]) 4 32 Tryz.underlying28 hi hz0 hz1 hz2 rfl (by decide) _ df4.length _ rfl hown wb4.heap.size A4 ge4.length cap4 _ rfl hr hone (by unfold maxLen; decide) (by decide) HB.out.size ?_)
  intro u4 w4 hown' hgrow _
  have HO := Lib.hid (show OwnEs w4 w.heap.size u4 df5 from ents_app hown')
  have HB := Lib.hid (below_own HB.out HLT.out hgrow)
  clear hr hone hown hown' hgrow HG HLT
  go_wp2_with fail
  have K5 := Lib.hid (Blk.new w4 9 #[.string ⟨#[115, 117, 109]⟩, .string ⟨#[112, 114, 111, 100]⟩])
  have HB := Lib.hid (HB.out.alloc HB.out.size (.cells #[.string ⟨#[115, 117, 109]⟩, .string ⟨#[112, 114, 111, 100]⟩] 9))
  have HO := Lib.hid (HO.out.keep (bel_alloc w4 (.cells #[.string ⟨#[115, 117, 109]⟩, .string ⟨#[112, 114, 111, 100]⟩] 9)))
  generalize w4.alloc (.cells #[.string ⟨#[115, 117, 109]⟩, .string ⟨#[112, 114, 111, 100]⟩] 9) = wa5 at *
  refine (group_any 1 true true (some ⟨w4.heap.size, 0, none⟩) 2 gr5 wa5 (strs_blk K5.out rfl) (by decide)).mono ?_
  rintro e wb5 ⟨v5, rfl, ho, hb⟩
  have HG := Lib.hid (show OwnEs wb5 wa5.heap.size v5 ge5 from ho)
  have HO := Lib.hid (HO.out.keep hb)
  have HB := Lib.hid (HB.out.trans (hb.mono HB.out.size))
  clear ho hb K5
  obtain ⟨A5, cap5, rfl, _, _⟩ := HG.out.form
  have hr := reads_own HG.out
  have hone := ents_one ge5
  have hown := (show wb5.ownsRow w.heap.size 78 4 _ df5.length (entL df5) from HO.out)
  have HLT := Lib.hid HO.out.lt
  go_wp2_with (at_builtin; refine wpList_append_any _ rfl (.tmp 22) (.tmp 24) 28 rfl w.heap.size 78 i0 (.agg #[.string ⟨#[]⟩, .int .i64 0, .bool false, .bool false]) 4 32 Tryz.underlying28 hi hz0 hz1 hz2 rfl (by decide) _ df5.length _ rfl hown wb5.heap.size A5 ge5.length cap5 _ rfl hr hone (by unfold maxLen; decide) (by decide) HB.out.size ?_)
  intro u5 w5 hown' hgrow _
  have HO := Lib.hid (show OwnEs w5 w.heap.size u5 df6 from ents_app hown')
  have HB := Lib.hid (below_own HB.out HLT.out hgrow)
  clear hr hone hown hown' hgrow HG HLT
  go_wp2_with fail
  have K6 := Lib.hid (Blk.new w5 9 #[.string ⟨#[105, 110, 116]⟩])
  have HB := Lib.hid (HB.out.alloc HB.out.size (.cells #[.string ⟨#[105, 110, 116]⟩] 9))
  have HO := Lib.hid (HO.out.keep (bel_alloc w5 (.cells #[.string ⟨#[105, 110, 116]⟩] 9)))
  generalize w5.alloc (.cells #[.string ⟨#[105, 110, 116]⟩] 9) = wa6 at *
  refine (group_any 1 false true (some ⟨w5.heap.size, 0, none⟩) 1 gr6 wa6 (strs_blk K6.out rfl) (by decide)).mono ?_
  rintro e wb6 ⟨v6, rfl, ho, hb⟩
  have HG := Lib.hid (show OwnEs wb6 wa6.heap.size v6 ge6 from ho)
  have HO := Lib.hid (HO.out.keep hb)
  have HB := Lib.hid (HB.out.trans (hb.mono HB.out.size))
  clear ho hb K6
  obtain ⟨A6, cap6, rfl, _, _⟩ := HG.out.form
  have hr := reads_own HG.out
  have hone := ents_one ge6
  have hown := (show wb6.ownsRow w.heap.size 78 4 _ df6.length (entL df6) from HO.out)
  have HLT := Lib.hid HO.out.lt
  go_wp2_with (at_builtin; refine wpList_append_any _ rfl (.tmp 26) (.tmp 28) 28 rfl w.heap.size 78 i0 (.agg #[.string ⟨#[]⟩, .int .i64 0, .bool false, .bool false]) 4 32 Tryz.underlying28 hi hz0 hz1 hz2 rfl (by decide) _ df6.length _ rfl hown wb6.heap.size A6 ge6.length cap6 _ rfl hr hone (by unfold maxLen; decide) (by decide) HB.out.size ?_)
  intro u6 w6 hown' hgrow _
  have HO := Lib.hid (show OwnEs w6 w.heap.size u6 df7 from ents_app hown')
  have HB := Lib.hid (below_own HB.out HLT.out hgrow)
  clear hr hone hown hown' hgrow HG HLT
  go_wp2_with fail
  have K7 := Lib.hid (Blk.new w6 9 #[.string ⟨#[108, 105, 109]⟩, .string ⟨#[109, 97, 120]⟩, .string ⟨#[109, 105, 110]⟩])
  have HB := Lib.hid (HB.out.alloc HB.out.size (.cells #[.string ⟨#[108, 105, 109]⟩, .string ⟨#[109, 97, 120]⟩, .string ⟨#[109, 105, 110]⟩] 9))
  have HO := Lib.hid (HO.out.keep (bel_alloc w6 (.cells #[.string ⟨#[108, 105, 109]⟩, .string ⟨#[109, 97, 120]⟩, .string ⟨#[109, 105, 110]⟩] 9)))
  generalize w6.alloc (.cells #[.string ⟨#[108, 105, 109]⟩, .string ⟨#[109, 97, 120]⟩, .string ⟨#[109, 105, 110]⟩] 9) = wa7 at *
  refine (group_any 1 true false (some ⟨w6.heap.size, 0, none⟩) 3 gr7 wa7 (strs_blk K7.out rfl) (by decide)).mono ?_
  rintro e wb7 ⟨v7, rfl, ho, hb⟩
  have HG := Lib.hid (show OwnEs wb7 wa7.heap.size v7 ge7 from ho)
  have HO := Lib.hid (HO.out.keep hb)
  have HB := Lib.hid (HB.out.trans (hb.mono HB.out.size))
  clear ho hb K7
  obtain ⟨A7, cap7, rfl, _, _⟩ := HG.out.form
  have hr := reads_own HG.out
  have hone := ents_one ge7
  have hown := (show wb7.ownsRow w.heap.size 78 4 _ df7.length (entL df7) from HO.out)
  have HLT := Lib.hid HO.out.lt
  go_wp2_with (at_builtin; refine wpList_append_any _ rfl (.tmp 30) (.tmp 32) 28 rfl w.heap.size 78 i0 (.agg #[.string ⟨#[]⟩, .int .i64 0, .bool false, .bool false]) 4 32 Tryz.underlying28 hi hz0 hz1 hz2 rfl (by decide) _ df7.length _ rfl hown wb7.heap.size A7 ge7.length cap7 _ rfl hr hone (by unfold maxLen; decide) (by decide) HB.out.size ?_)
  intro u7 w7 hown' hgrow _
  have HO := Lib.hid (show OwnEs w7 w.heap.size u7 df8 from ents_app hown')
  have HB := Lib.hid (below_own HB.out HLT.out hgrow)
  clear hr hone hown hown' hgrow HG HLT
  go_wp2_with fail
  have K8 := Lib.hid (Blk.new w7 9 #[.string ⟨#[115, 105, 110]⟩, .string ⟨#[99, 111, 115]⟩, .string ⟨#[116, 97, 110]⟩, .string ⟨#[108, 111, 103]⟩, .string ⟨#[108, 110]⟩, .string ⟨#[101, 120, 112]⟩])
  have HB := Lib.hid (HB.out.alloc HB.out.size (.cells #[.string ⟨#[115, 105, 110]⟩, .string ⟨#[99, 111, 115]⟩, .string ⟨#[116, 97, 110]⟩, .string ⟨#[108, 111, 103]⟩, .string ⟨#[108, 110]⟩, .string ⟨#[101, 120, 112]⟩] 9))
  have HO := Lib.hid (HO.out.keep (bel_alloc w7 (.cells #[.string ⟨#[115, 105, 110]⟩, .string ⟨#[99, 111, 115]⟩, .string ⟨#[116, 97, 110]⟩, .string ⟨#[108, 111, 103]⟩, .string ⟨#[108, 110]⟩, .string ⟨#[101, 120, 112]⟩] 9)))
  generalize w7.alloc (.cells #[.string ⟨#[115, 105, 110]⟩, .string ⟨#[99, 111, 115]⟩, .string ⟨#[116, 97, 110]⟩, .string ⟨#[108, 111, 103]⟩, .string ⟨#[108, 110]⟩, .string ⟨#[101, 120, 112]⟩] 9) = wa8 at *
  refine (group_any 1 false false (some ⟨w7.heap.size, 0, none⟩) 6 gr8 wa8 (strs_blk K8.out rfl) (by decide)).mono ?_
  rintro e wb8 ⟨v8, rfl, ho, hb⟩
  have HG := Lib.hid (show OwnEs wb8 wa8.heap.size v8 ge8 from ho)
  have HO := Lib.hid (HO.out.keep hb)
  have HB := Lib.hid (HB.out.trans (hb.mono HB.out.size))
  clear ho hb K8
  obtain ⟨A8, cap8, rfl, _, _⟩ := HG.out.form
  have hr := reads_own HG.out
  have hone := ents_one ge8
  have hown := (show wb8.ownsRow w.heap.size 78 4 _ df8.length (entL df8) from HO.out)
  have HLT := Lib.hid HO.out.lt
  go_wp2_with (at_builtin; refine wpList_append_any _ rfl (.tmp 34) (.tmp 36) 28 rfl w.heap.size 78 i0 (.agg #[.string ⟨#[]⟩, .int .i64 0, .bool false, .bool false]) 4 32 Tryz.underlying28 hi hz0 hz1 hz2 rfl (by decide) _ df8.length _ rfl hown wb8.heap.size A8 ge8.length cap8 _ rfl hr hone (by unfold maxLen; decide) (by decide) HB.out.size ?_)
  intro u8 w8 hown' hgrow _
  have HO := Lib.hid (show OwnEs w8 w.heap.size u8 df9 from ents_app hown')
  have HB := Lib.hid (below_own HB.out HLT.out hgrow)
  clear hr hone hown hown' hgrow HG HLT
  go_wp2_with fail
  go_ret
  exact ⟨_, rfl, HO.out, HB.out⟩
end Go.Proofs.YtgoafobhhmeppaaGreat
