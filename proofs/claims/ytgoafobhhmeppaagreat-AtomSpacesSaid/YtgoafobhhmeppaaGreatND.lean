/- Dictionaries: Find of the program and of the reference. -/
import Derived.Test.YtgoafobhhmeppaaGreatAR
import Derived.Test.YtgoafobhhmeppaaGreatTM
import Derived.Deep.RegionWith
import Derived.Deep.DeepCutAuto
namespace Go.Proofs.YtgoafobhhmeppaaGreat
open Go.RowKit
abbrev Ent.c (e : Ent) : Array Value := #[.string e.text, .int .i64 e.cls, .bool e.lim, .bool e.stc]
abbrev Ent.v (e : Ent) : Value := .agg e.c
/-- entries in a row -/
def EntsAt (w : World) (A : Option Addr) (es : List Ent) : Prop := ∀ (k : Nat) (e : Ent), es[k]? = some e → e.text.size ≤ 9223372036854775807 ∧ ∃ ad : Addr, A = some ad ∧ ad.block < w.heap.size ∧ ∀ (j : Nat) (v : Value), e.c[j]? = some v → w.cell? (ad.add (k * 4 + j)) = some v
theorem EntsAt.keep {w w' : World} {A : Option Addr} {es : List Ent} (h : EntsAt w A es) (hb : Below w.heap.size w w') : EntsAt w' A es := fun k r hk => by
  obtain ⟨hf, ad, hA, hlt, hc⟩ := h k r hk
  exact ⟨hf, ad, hA, Nat.lt_of_lt_of_le hlt hb.size, fun j v hj => (hb.cell (by rw [add_blk]; exact hlt)).trans (hc j v hj)⟩
theorem EntsAt.drew {w : World} {A : Option Addr} {es : List Ent} (h : EntsAt w A es) : EntsAt w.drew A es := h
theorem EntsAt.at_ {w : World} {A : Option Addr} {es : List Ent} (h : EntsAt w A es) {k : Nat} {e : Ent} (hk : es[k]? = some e) :
    e.text.size ≤ 9223372036854775807 ∧ ∃ ad : Addr, A = some ad ∧ ad.block < w.heap.size ∧ w.cell? (ad.add (k * 4)) = some (.string e.text) ∧ w.cell? ⟨(ad.add (k * 4)).block, (ad.add (k * 4)).off + 1, none⟩ = some (.int .i64 e.cls) ∧ w.cell? ⟨(ad.add (k * 4)).block, (ad.add (k * 4)).off + 2, none⟩ = some (.bool e.lim) ∧ w.cell? ⟨(ad.add (k * 4)).block, (ad.add (k * 4)).off + 3, none⟩ = some (.bool e.stc) := by
  obtain ⟨hf, ad, hA, hlt, hc⟩ := h k e hk
  exact ⟨hf, ad, hA, hlt, hc 0 _ rfl, add_cel (j := 0) (hc 1 _ rfl), add_cel (j := 1) (hc 2 _ rfl), add_cel (j := 2) (hc 3 _ rfl)⟩
theorem ret_int {k : IntKind} {a b : Int} (h : a = b) : Ending.returned (.int k a) = .returned (.int k b) := by rw [h]
set_option maxHeartbeats 400000 in
theorem index1_any (e : Ent) (s : ByteArray) (g : Nat) (w : World) (hK : Blk w g 9 #[.string s]) : Calls Tryz.prog 90 #[e.v, .pointer (some ⟨g, 0, none⟩)] w fun x w' => x = .returned (.bool (e.text.toList == s.toList)) ∧ Below w.heap.size w w' := by
  have HK := Lib.hid (hK.alloc (.cells e.c 78))
  have cK := (hK.alloc (.cells e.c 78)).cell 0
  have lK := hK.lt
  clear hK
  go_enter Tryz.func90, Tryz.ntmps90
  go_wp2_with fail
  go_ret
  exact ⟨rfl, bel_alloc _ _⟩
/-- the place of the first entry with a text, or -1 -/
def idxE (es : List Ent) (s : ByteArray) : Int := match es.findIdx? (fun e => e.text.toList == s.toList) with
  | some k => k
  | none => -1
theorem idx_hit {es : List Ent} {s : ByteArray} {k : Nat} {e : Ent} (hk : es[k]? = some e) (h : (e.text.toList == s.toList) = true) (hj : ∀ (j : Nat) x, es[j]? = some x → j < k → (x.text.toList == s.toList) = false) : es.findIdx? (fun e => e.text.toList == s.toList) = some k := by
  obtain ⟨hl, rfl⟩ := List.getElem?_eq_some_iff.1 hk
  rw [List.findIdx?_eq_some_iff_getElem]
  exact ⟨hl, h, fun j hlt => by rw [hj j _ (List.getElem?_eq_getElem (by omega)) hlt]; simp⟩
theorem idx_miss {es : List Ent} {s : ByteArray} (hj : ∀ (j : Nat) x, es[j]? = some x → (x.text.toList == s.toList) = false) : es.findIdx? (fun e => e.text.toList == s.toList) = none := by
  rw [List.findIdx?_eq_none_iff]
  intro x hx
  obtain ⟨j, hj'⟩ := List.mem_iff_getElem?.1 hx
  exact hj j x hj'
abbrev cloE (g : Nat) : Value := .func (.func 90) #[] #[.pointer (some ⟨g, 0, none⟩)]
set_option maxRecDepth 100000 in
set_option maxHeartbeats 800000 in
theorem indexf_any (A : Option Addr) (cap g : Nat) (es : List Ent) (s : ByteArray) (w : World) (hR : EntsAt w A es) (hK : Blk w g 9 #[.string s]) (hn : es.length ≤ 1000000) : Calls Tryz.prog 89 #[.slice A es.length cap, cloE g] w fun e w' => e = .returned (.int .i64 (idxE es s)) ∧ Below w.heap.size w w' := by
  have HR := Lib.hid hR
  have HK := Lib.hid hK
  clear hR hK
  go_enter Tryz.func89, Tryz.ntmps89
  go_wp2_with fail
  go_loopw [8] (fun i wr => ∃ k : Nat, k ≤ es.length ∧ i = .int .i64 k ∧ Hid (∀ (j : Nat) x, es[j]? = some x → j < k → (x.text.toList == s.toList) = false) ∧ Hid (EntsAt wr A es) ∧ Hid (Blk wr g 9 #[.string s]) ∧ Hid (Below w.heap.size w wr)) (fun i _ => es.length - (intOf i).toNat)
  case atStart => exact ⟨0, by omega, rfl, (fun j _ _ h => by omega), HR, HK, Below.refl _ _⟩
  case round =>
    clear HR HK
    obtain ⟨k, hk, rfl, HJ, HR, HK, H0⟩ := hrel
    by_cases hlt : k < es.length
    · obtain ⟨x, hx⟩ : ∃ x, es[k]? = some x := ⟨_, List.getElem?_eq_getElem hlt⟩
      obtain ⟨hf, ad, rfl, hadl, c0, c1, c2, c3⟩ := HR.out.at_ hx
      have HX := Lib.hid hx
      clear hx hf
      go_wp2_with fail
      refine (index1_any x s g _ HK.out).mono ?_
      rintro e w1 ⟨rfl, hb⟩
      have NR := Lib.hid (HR.out.keep hb)
      have NK := Lib.hid (keep hb HK.out)
      have NB := Lib.hid (H0.out.trans (hb.mono H0.out.size))
      clear hb HR HK H0 c0 c1 c2 c3
      cases hq : (x.text.toList == s.toList)
      · have HQ := Lib.hid hq
        clear hq
        go_wp2_with fail
        go_roundw
        case rel => exact ⟨k + 1, by omega, by go_num, (fun j y hj h => by
          rcases Nat.lt_or_ge j k with h' | h'
          · exact HJ.out j y hj h'
          · obtain rfl : j = k := by omega
            rw [HX.out] at hj
            obtain rfl := Option.some.inj hj
            exact HQ.out), NR, NK, NB⟩
        case measure => simp [intOf]; omega
      · have HQ := Lib.hid (idx_hit HX.out hq HJ.out)
        clear hq
        go_wp2_with fail
        go_ret
        exact ⟨ret_int (by unfold idxE; rw [HQ.out]), NB.out⟩
    · have HQ := Lib.hid (idx_miss (es := es) (s := s) fun j x hj => HJ.out j x hj (by have := (List.getElem?_eq_some_iff.1 hj).1; omega))
      go_wp2_with fail
      go_ret
      exact ⟨ret_int (by unfold idxE; rw [HQ.out]), H0.out⟩
set_option maxRecDepth 100000 in
set_option maxHeartbeats 400000 in
theorem oindex_any (A : Option Addr) (cap : Nat) (es : List Ent) (s : ByteArray) (w : World) (hR : EntsAt w A es) (hn : es.length ≤ 1000000) : Calls Tryz.prog 78 #[.slice A es.length cap, .string s] w fun e w' => e = .returned (.int .i64 (idxE es s)) ∧ Below w.heap.size w w' := by
  have HR := Lib.hid hR
  clear hR
  go_enter Tryz.func78, Tryz.ntmps78
  go_wp2_with fail
  refine (indexf_any A cap w.heap.size es s _ (HR.out.keep (bel_alloc w _)) (Blk.new w 9 #[.string s]) hn).mono ?_
  rintro e w1 ⟨rfl, hb⟩
  have HB := Lib.hid ((bel_alloc w _).trans (hb.mono (by simp)))
  clear hb
  go_wp2_with fail
  go_ret
  exact ⟨rfl, HB.out⟩
/-- the entry of a text -/
def entE (es : List Ent) (s : ByteArray) : Ent := match es.findIdx? (fun e => e.text.toList == s.toList) with
  | some k => es.getD k ⟨s, 0, false, false⟩
  | none => ⟨s, 0, false, false⟩
theorem ent_find (p : Ent → Bool) (d : Ent) (hd : d.cls = 0) : ∀ es : List Ent, (match es.findIdx? p with
    | some k => es.getD k d
    | none => d).cls = ((es.find? p).map (·.cls)).getD 0
  | [] => by simpa using hd
  | x :: r => by
    rw [List.findIdx?_cons, List.find?_cons]
    cases hp : p x
    · rw [if_neg (by simp), ← ent_find p d hd r]
      cases r.findIdx? p <;> rfl
    · rfl
theorem ent_cls (es : List Ent) (s : ByteArray) : (entE es s).cls = clsOf es s.data.toList := by
  unfold entE clsOf findE
  rw [ent_find _ _ rfl]
  have h : (fun e : Ent => e.text.toList == s.toList) = fun e : Ent => e.text.data.toList == s.data.toList := by
    funext e; rw [ByteArray.toList_eq, ByteArray.toList_eq]
  rw [h]
theorem ent_hit {es : List Ent} {s : ByteArray} {k : Nat} {e : Ent} (hk : es[k]? = some e) (h : es.findIdx? (fun e => e.text.toList == s.toList) = some k) : entE es s = e := by
  unfold entE
  rw [h]
  show es.getD k _ = e
  rw [List.getD_eq_getElem?_getD, hk]
  rfl
theorem ent_miss {es : List Ent} {s : ByteArray} (h : es.findIdx? (fun e => e.text.toList == s.toList) = none) : entE es s = ⟨s, 0, false, false⟩ := by
  unfold entE
  rw [h]
abbrev zeroE : Ent := ⟨⟨#[]⟩, 0, false, false⟩
theorem blk4 {w : World} {g : Nat} {t : TypeId} {x0 x1 x2 x3 : Value} (a b c d : Value) (h : Blk w g t #[x0, x1, x2, x3]) : Blk ((((w.setCell ⟨g, 0, none⟩ a).setCell ⟨g, 1, none⟩ b).setCell ⟨g, 2, none⟩ c).setCell ⟨g, 3, none⟩ d) g t #[a, b, c, d] := by
  have := (((h.set_ 0 a).set_ 1 b).set_ 2 c).set_ 3 d
  simpa using this
theorem bel4 {w w0 : World} {B : Nat} (g : Nat) (a b c d : Value) (h : Below B w0 w) (hg : B ≤ g) : Below B w0 ((((w.setCell ⟨g, 0, none⟩ a).setCell ⟨g, 1, none⟩ b).setCell ⟨g, 2, none⟩ c).setCell ⟨g, 3, none⟩ d) :=
  (((h.setCell (p := ⟨g, 0, none⟩) hg a).setCell (p := ⟨g, 1, none⟩) hg b).setCell (p := ⟨g, 2, none⟩) hg c).setCell (p := ⟨g, 3, none⟩) hg d
set_option maxRecDepth 100000 in
set_option maxHeartbeats 800000 in
theorem ofind_any (A : Option Addr) (cap : Nat) (es : List Ent) (s : ByteArray) (w : World) (hR : EntsAt w A es) (hn : es.length ≤ 1000000) : Calls Tryz.prog 58 #[.slice A es.length cap, .string s] w fun e w' => e = .returned (entE es s).v ∧ Below w.heap.size w w' := by
  have HR := Lib.hid hR
  clear hR
  go_enter Tryz.func58, Tryz.ntmps58
  go_wp2_with fail
  have K0 := Lib.hid (Blk.new w 78 zeroE.c)
  have H0 := Lib.hid (bel_alloc w (.cells zeroE.c 78))
  refine (oindex_any A cap es s _ (HR.out.keep H0.out) hn).mono ?_
  rintro e w1 ⟨rfl, hb⟩
  have K0 := Lib.hid (keep hb K0.out)
  have H1 := Lib.hid (H0.out.trans (hb.mono H0.out.size))
  clear hb H0
  have c0 := K0.out.cell 0
  have c1 := K0.out.cell 1
  have c2 := K0.out.cell 2
  have c3 := K0.out.cell 3
  have fK := fun i => K0.out.frozen i
  have lK := K0.out.lt
  unfold idxE
  cases hx : es.findIdx? (fun e => e.text.toList == s.toList) with
  | none =>
    have HE := Lib.hid (ent_miss hx)
    clear hx
    dsimp only
    go_wp2_with fail
    have N := Lib.hid (blk4 (.string s) (.int .i64 0) (.bool false) (.bool false) K0.out)
    have NB := Lib.hid (bel4 w.heap.size (.string s) (.int .i64 0) (.bool false) (.bool false) H1.out (Nat.le_refl _))
    clear c0 c1 c2 c3 fK lK
    generalize ((((w1.setCell ⟨w.heap.size, 0, none⟩ (.string s)).setCell ⟨w.heap.size, 1, none⟩ (.int .i64 0)).setCell ⟨w.heap.size, 2, none⟩ (.bool false)).setCell ⟨w.heap.size, 3, none⟩ (.bool false)) = wz at *
    have c := fun i => N.out.cell i
    exact bodyPost_ret (v := Ent.v ⟨s, 0, false, false⟩) (by simp [results, Tryz.results58, go_sem, c]) rfl ⟨by rw [HE.out], NB.out⟩
  | some k =>
    obtain ⟨x, hxk⟩ : ∃ x, es[k]? = some x := by
      obtain ⟨hl, _⟩ := List.findIdx?_eq_some_iff_getElem.1 hx
      exact ⟨_, List.getElem?_eq_getElem hl⟩
    have hkl : k < es.length := (List.getElem?_eq_some_iff.1 hxk).1
    have HE := Lib.hid (ent_hit hxk hx)
    obtain ⟨hf, ad, rfl, hadl, d0, d1, d2, d3⟩ := (HR.out.keep H1.out).at_ hxk
    clear hx hxk
    dsimp only
    go_wp2_with fail
    have N := Lib.hid (blk4 (.string x.text) (.int .i64 x.cls) (.bool x.lim) (.bool x.stc) K0.out)
    have NB := Lib.hid (bel4 w.heap.size (.string x.text) (.int .i64 x.cls) (.bool x.lim) (.bool x.stc) H1.out (Nat.le_refl _))
    clear c0 c1 c2 c3 fK lK d0 d1 d2 d3
    generalize ((((w1.setCell ⟨w.heap.size, 0, none⟩ (.string x.text)).setCell ⟨w.heap.size, 1, none⟩ (.int .i64 x.cls)).setCell ⟨w.heap.size, 2, none⟩ (.bool x.lim)).setCell ⟨w.heap.size, 3, none⟩ (.bool x.stc)) = wz at *
    have c := fun i => N.out.cell i
    exact bodyPost_ret (v := x.v) (by simp [results, Tryz.results58, go_sem, c]) rfl ⟨by rw [HE.out], NB.out⟩
set_option maxRecDepth 100000 in
set_option maxHeartbeats 800000 in
theorem rfind_any (A : Option Addr) (cap : Nat) (es : List Ent) (s : ByteArray) (w : World) (hR : EntsAt w A es) (hn : es.length ≤ 1000000) : Calls Tryz.prog 61 #[.slice A es.length cap, .string s] w fun e w' => e = .returned (entE es s).v ∧ Below w.heap.size w w' := by
  have HR := Lib.hid hR
  clear hR
  go_enter Tryz.func61, Tryz.ntmps61
  go_wp2_with fail
  have K0 := Lib.hid (Blk.new w 78 zeroE.c)
  have H1 := Lib.hid (bel_alloc w (.cells zeroE.c 78))
  have HR1 := Lib.hid (HR.out.keep H1.out)
  have HW := Lib.hid (show (w.alloc (.cells zeroE.c 78)).heap.size = w.heap.size + 1 by simp)
  generalize w.alloc (.cells #[.string ⟨#[]⟩, .int .i64 0, .bool false, .bool false] 78) = w1 at *
  have c0 := K0.out.cell 0
  have c1 := K0.out.cell 1
  have c2 := K0.out.cell 2
  have c3 := K0.out.cell 3
  have fK := fun i => K0.out.frozen i
  have lK := K0.out.lt
  go_loop [5] (fun i => ∃ k : Nat, k ≤ es.length ∧ i = .int .i64 k ∧ Hid (∀ (j : Nat) x, es[j]? = some x → j < k → (x.text.toList == s.toList) = false)) (fun i => es.length - (intOf i).toNat)
  case atStart => exact ⟨0, by omega, rfl, fun j _ _ h => by omega⟩
  case round =>
    obtain ⟨k, hk, rfl, HJ⟩ := hrel
    by_cases hlt : k < es.length
    · obtain ⟨x, hx⟩ : ∃ x, es[k]? = some x := ⟨_, List.getElem?_eq_getElem hlt⟩
      obtain ⟨hf, ad, rfl, hadl, d0, d1, d2, d3⟩ := HR1.out.at_ hx
      have HX := Lib.hid hx
      clear hx hf
      cases hq : (x.text.toList == s.toList)
      · have HQ := Lib.hid hq
        go_wp2_with fail
        go_round
        case rel => exact ⟨k + 1, by omega, by go_num, fun j y hj h => by
          rcases Nat.lt_or_ge j k with h' | h'
          · exact HJ.out j y hj h'
          · obtain rfl : j = k := by omega
            rw [HX.out] at hj
            obtain rfl := Option.some.inj hj
            exact HQ.out⟩
        case measure => simp [intOf]; omega
      · have HE := Lib.hid (ent_hit HX.out (idx_hit HX.out hq HJ.out))
        go_wp2_with fail
        have N := Lib.hid (blk4 (.string x.text) (.int .i64 x.cls) (.bool x.lim) (.bool x.stc) K0.out)
        have NB := Lib.hid (bel4 w.heap.size (.string x.text) (.int .i64 x.cls) (.bool x.lim) (.bool x.stc) H1.out (Nat.le_refl _))
        clear c0 c1 c2 c3 fK lK d0 d1 d2 d3
        generalize ((((w1.setCell ⟨w.heap.size, 0, none⟩ (.string x.text)).setCell ⟨w.heap.size, 1, none⟩ (.int .i64 x.cls)).setCell ⟨w.heap.size, 2, none⟩ (.bool x.lim)).setCell ⟨w.heap.size, 3, none⟩ (.bool x.stc)) = wz at *
        have c := fun i => N.out.cell i
        exact bodyPost_ret (v := x.v) (by simp [results, Tryz.results61, go_sem, c]) rfl ⟨by rw [HE.out], NB.out⟩
    · have HE := Lib.hid (ent_miss (idx_miss (es := es) (s := s) fun j x hj => HJ.out j x hj (by have := (List.getElem?_eq_some_iff.1 hj).1; omega)))
      go_wp2_with fail
      have N := Lib.hid (blk4 (.string s) (.int .i64 0) (.bool false) (.bool false) K0.out)
      have NB := Lib.hid (bel4 w.heap.size (.string s) (.int .i64 0) (.bool false) (.bool false) H1.out (Nat.le_refl _))
      clear c0 c1 c2 c3 fK lK
      generalize ((((w1.setCell ⟨w.heap.size, 0, none⟩ (.string s)).setCell ⟨w.heap.size, 1, none⟩ (.int .i64 0)).setCell ⟨w.heap.size, 2, none⟩ (.bool false)).setCell ⟨w.heap.size, 3, none⟩ (.bool false)) = wz at *
      have c := fun i => N.out.cell i
      exact bodyPost_ret (v := Ent.v ⟨s, 0, false, false⟩) (by simp [results, Tryz.results61, go_sem, c]) rfl ⟨by rw [HE.out], NB.out⟩
end Go.Proofs.YtgoafobhhmeppaaGreat
