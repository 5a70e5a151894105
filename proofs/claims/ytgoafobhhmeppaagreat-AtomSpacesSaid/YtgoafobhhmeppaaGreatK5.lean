/- Classes, of the program and of the reference. -/
import Derived.Test.YtgoafobhhmeppaaGreatK4
namespace Go.Proofs.YtgoafobhhmeppaaGreat
open Go.RowKit
def okC (es : List Ent) (ts : List Tre) : Bool := dictB es && validT (.mk 1 ⟨#[]⟩ 0 ts)
def resC (es : List Ent) (ts : List Tre) : List Int := if okC es ts then rowL (ts.map (classT es)) else []
def errC (es : List Ent) (ts : List Tre) : Int := if okC es ts then 0 else 1
def ClassesP (es : List Ent) (ts : List Tre) (w : World) (e : Ending) (w' : World) : Prop := ∃ v, e = .returned (.tuple #[v, .int .i64 (errC es ts)]) ∧ OwnI w' w.heap.size v (resC es ts) ∧ Below w.heap.size w w'
theorem own_nil (w : World) (B : Nat) : OwnI w B (.slice none 0 0) [] := World.ownsRow_nil _ _ _ _
theorem classes_bad {es : List Ent} {ts : List Tre} {w w' : World} {e : Ending} (h : okC es ts = false) (he : e = .returned (.tuple #[.slice none 0 0, .int .i64 1])) (hb : Below w.heap.size w w') : ClassesP es ts w e w' := by
  refine ⟨.slice none 0 0, ?_, ?_, hb⟩
  · rw [he]; unfold errC; rw [h]; rfl
  · unfold resC; rw [h]; exact own_nil _ _
theorem classes_good {es : List Ent} {ts : List Tre} {w w' : World} {e : Ending} {v : Value} (h : okC es ts = true) (he : e = .returned (.tuple #[v, .int .i64 0])) (ho : OwnI w' w.heap.size v (rowL (ts.map (classT es)))) (hb : Below w.heap.size w w') : ClassesP es ts w e w' := by
  refine ⟨v, ?_, ?_, hb⟩
  · rw [he]; unfold errC; rw [h]; rfl
  · unfold resC; rw [h]; exact ho
theorem OwnI.more {w : World} {B B' : Nat} {v : Value} {xs : List Int} (h : OwnI w B v xs) (hB : B' ≤ B) : OwnI w B' v xs :=
  ⟨h.1, h.2.imp id fun ⟨g, cap, cur, h1, h2, h3⟩ => ⟨g, cap, cur, h1, Nat.le_trans hB h2, h3⟩⟩
set_option maxRecDepth 100000 in
set_option maxHeartbeats 800000 in
theorem aClasses_any (A A2 : Option Addr) (cap cap2 : Nat) (es : List Ent) (ts : List Tre) (w : World) (hn : es.length ≤ 1000000) (ht : ts.length ≤ 1000000) (hc : ts.length ≤ cap2) (hc2 : cap2 ≤ 9223372036854775807) (hE : EntsAt w A es) (hK : KidsAt w A2 ts) : Calls Tryz.prog 10 #[.slice A es.length cap, .slice A2 ts.length cap2] w (ClassesP es ts w) := by
  have HE := Lib.hid hE
  have HK := Lib.hid hK
  have HQ := Lib.hid (show okC es ts = (dictB es && validT (.mk 1 ⟨#[]⟩ 0 ts)) from rfl)
  clear hE hK
  go_enter Tryz.func10, Tryz.ntmps10
  go_wp2_with fail
  refine (ovalid_any A cap es w HE.out hn).mono ?_
  rintro e w1 ⟨rfl, hb⟩
  have HE := Lib.hid (HE.out.keep hb)
  have HK := Lib.hid (HK.out.keep hb)
  have HB := Lib.hid hb
  clear hb
  cases hd : dictB es
  · rw [hd] at HQ
    clear hd
    go_wp2_with fail
    go_ret2
    exact classes_bad HQ.out rfl HB.out
  rw [hd, Bool.true_and] at HQ
  clear hd
  go_wp2_with fail
  refine (nitems_any A2 cap2 ts w1 HK.out hc hc2).mono ?_
  rintro e w2 ⟨rfl, hb⟩
  have HE := Lib.hid (HE.out.keep hb)
  have HK := Lib.hid (HK.out.keep hb)
  have HB := Lib.hid (HB.out.trans (hb.mono HB.out.size))
  clear hb
  cases hd : validT (.mk 1 ⟨#[]⟩ 0 ts)
  · rw [hd] at HQ
    clear hd
    go_wp2_with fail
    go_ret2
    exact classes_bad HQ.out rfl HB.out
  rw [hd] at HQ
  clear hd
  go_wp2_with fail
  refine (aclasses_any A A2 cap cap2 es ts w2 hn ht HE.out HK.out).mono ?_
  rintro e w3 ⟨v, rfl, ho, hb⟩
  have HO := Lib.hid (ho.more HB.out.size)
  have HB := Lib.hid (HB.out.trans (hb.mono HB.out.size))
  clear hb ho
  go_wp2_with fail
  go_ret2
  exact classes_good (v := v) HQ.out rfl HO.out HB.out
theorem cells_new (w : World) (cs : List Value) (t : TypeId) : ∀ j u, cs[j]? = some u → (w.alloc (.cells cs.toArray t)).cell? ((⟨w.heap.size, 0, none⟩ : Addr).add j) = some u := by
  intro j u hj
  rw [show (⟨w.heap.size, 0, none⟩ : Addr).add j = ⟨w.heap.size, j, none⟩ by unfold Addr.add; simp; omega, Blk.cell (Blk.new w t _)]
  simpa using hj
theorem ints_snoc {w : World} {B n : Nat} {v : Value} {xs : List Int} {c : Int} (hn : xs.length = n) (h : w.ownsRow B 3 1 v (n + 1) ((xs.map (Value.int .i64)) ++ [.int .i64 c])) : OwnI w B v (xs ++ [c]) := by
  unfold OwnI
  rw [List.length_append, hn, List.map_append, List.map_cons, List.map_nil]
  exact h
set_option maxRecDepth 100000 in
set_option maxHeartbeats 800000 in
theorem rClasses_any (A A2 : Option Addr) (cap cap2 : Nat) (es : List Ent) (ts : List Tre) (w : World) (hn : es.length ≤ 1000000) (ht : ts.length ≤ 1000000) (hm : countL ts < 900000) (hc : ts.length ≤ cap2) (hc2 : cap2 ≤ 9223372036854775807) (hE : EntsAt w A es) (hK : KidsAt w A2 ts) : Calls Tryz.prog 23 #[.slice A es.length cap, .slice A2 ts.length cap2] w (ClassesP es ts w) := by
  obtain ⟨i0, hi, hz0, hz1, hz2⟩ := info_parts info_int
  have HE := Lib.hid hE
  have HK := Lib.hid hK
  have HQ := Lib.hid (show okC es ts = (dictB es && validT (.mk 1 ⟨#[]⟩ 0 ts)) from rfl)
  have HMC := Lib.hid hm
  clear hE hK hm
  go_enter Tryz.func23, Tryz.ntmps23
  go_wp2_with fail
  refine (rdict_any A cap es w HE.out hn).mono ?_
  rintro e w1 ⟨rfl, hb⟩
  have HB := Lib.hid hb
  clear hb
  cases hd : dictB es
  · rw [hd] at HQ
    clear hd
    go_wp2_with fail
    go_ret2
    exact classes_bad HQ.out rfl HB.out
  rw [hd, Bool.true_and] at HQ
  clear hd
  go_wp2_with fail
  refine (ritems_any A2 cap2 ts w1 (HK.out.keep HB.out) hc hc2 HMC.out).mono ?_
  rintro e w2 ⟨rfl, hb⟩
  have HB := Lib.hid (HB.out.trans (hb.mono HB.out.size))
  clear hb
  cases hd : validT (.mk 1 ⟨#[]⟩ 0 ts)
  · rw [hd] at HQ
    clear hd
    go_wp2_with fail
    go_ret2
    exact classes_bad HQ.out rfl HB.out
  rw [hd] at HQ
  clear hd
  go_wp2_with fail
  go_loopw [6, 7] (fun v i wr => ∃ k : Nat, k ≤ ts.length ∧ i = .int .i64 k ∧ Hid (OwnI wr w.heap.size v ((ts.map (classT es)).take k)) ∧ Hid (Below w.heap.size w wr)) (fun _ i _ => ts.length - (intOf i).toNat)
  case atStart => exact ⟨0, by omega, rfl, own_nil _ _, HB⟩
  case round =>
    clear HB
    obtain ⟨k, hk, rfl, HO, HB⟩ := hrel
    by_cases hlt : k < ts.length
    · obtain ⟨t, hx⟩ : ∃ t, ts[k]? = some t := ⟨_, List.getElem?_eq_getElem hlt⟩
      obtain ⟨ad, A3, cap3, rfl, hadl, hs3, hl3, hc3, hk3, hN3, d0, d1, d2, d3⟩ := (HK.out.keep HB.out).at_ hx
      have HS := Lib.hid (show (ts.map (classT es)).take (k + 1) = (ts.map (classT es)).take k ++ [classT es t] by rw [List.take_add_one, List.getElem?_map, hx]; rfl)
      have HLN := Lib.hid (show ((ts.map (classT es)).take k).length = k by simp; omega)
      have HN3 := Lib.hid hN3
      clear hx hk3 hN3
      generalize (ts.map (classT es)).take k = acc at *
      go_wp2_with fail
      refine (rclass_any A cap es hn (countT t + 1) t _ wr (by omega) (HE.out.keep HB.out) HN3.out).mono ?_
      rintro e w3 ⟨rfl, hb⟩
      have HO := Lib.hid (HO.out.keep hb)
      have HB := Lib.hid (HB.out.trans (hb.mono HB.out.size))
      clear hb d0 d1 d2 d3 HN3
      generalize classT es t = c at *
      obtain ⟨A5, cap5, rfl, hcl5, hcap5, _⟩ := HO.out.form
      have hown := (show w3.ownsRow w.heap.size 3 1 (.slice A5 acc.length cap5) acc.length (acc.map (Value.int .i64)) from HO.out).alloc (.cells #[.int .i64 c] 3)
      have HBL := Lib.hid (World.ownsRow.lt (show w3.ownsRow w.heap.size 3 1 (.slice A5 acc.length cap5) acc.length (acc.map (Value.int .i64)) from HO.out))
      have HSZ := Lib.hid HB.out.size
      have hln : acc.length ≤ k := by rw [HLN.out]; omega
      go_wp2_with (at_builtin; refine wpList_append_own _ rfl (.tmp 22) (.tmp 29) 37 rfl w.heap.size 3 i0 (.int .i64 0) 1 8 Tryz.underlying37 hi hz0 hz1 hz2 rfl (by decide) _ _ _ rfl hown ⟨w3.heap.size, 0, none⟩ 1 1 [.int .i64 c] rfl rfl (cells_new _ _ _) ?c2a ?c3a ?c4a ?c5a ?_)
      case c2a => intro u hu; simp at hu; subst hu; rfl
      case c3a => unfold maxLen; omega
      case c4a => omega
      case c5a => have := HSZ.out; simp; omega
      intro v' w4 hown' hgrow _
      have NB := Lib.hid ((HB.out.alloc HB.out.size (.cells #[.int .i64 c] 3)).grown hgrow (by have := HSZ.out; simp; omega) (fun k hk => (HBL.out k hk).1))
      have NO := Lib.hid (ints_snoc rfl hown')
      clear hown hown' hgrow HO HB hln
      go_wp2_with fail
      go_roundw
      case rel => exact ⟨k + 1, by omega, by go_num, by rw [HS.out]; exact NO, NB⟩
      case measure => simp [intOf]; omega
    · obtain rfl : k = ts.length := by omega
      have HT := Lib.hid (show (ts.map (classT es)).take ts.length = ts.map (classT es) from List.take_of_length_le (by simp))
      rw [HT.out] at HO
      have HLN := Lib.hid (show (ts.map (classT es)).length = ts.length by simp)
      obtain ⟨A5, cap5, rfl, hcl5, hcap5, hI⟩ := HO.out.form
      have HI := Lib.hid hI
      clear hI
      generalize hown : ts.map (classT es) = own at *
      have HOWN := Lib.hid hown
      clear hown
      go_wp2_with fail
      refine (row_any A5 cap5 own wr HI.out (by rw [HLN.out]; omega)).mono ?_
      rintro e w3 ⟨v, rfl, ho, hb⟩
      have HO := Lib.hid (ho.more HB.out.size)
      have HB := Lib.hid (HB.out.trans (hb.mono HB.out.size))
      clear hb ho
      go_wp2_with fail
      go_ret2
      exact classes_good (v := v) HQ.out rfl (by rw [HOWN.out]; exact HO.out) HB.out
end Go.Proofs.YtgoafobhhmeppaaGreat
