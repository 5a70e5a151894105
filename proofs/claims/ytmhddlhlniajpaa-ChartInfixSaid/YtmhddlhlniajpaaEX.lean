/- A shared reading in new memory. -/
import Derived.Test.YtmhddlhlniajpaaRD
namespace Go.Proofs.Ytmhddlhlniajpaa
open Go.RowKit
/-- the kids of a shared reading, as the loop over them sees them -/
theorem ShAt.kids {rs : List Rul} {w : World} {g : Nat} {x : Rd} (h : ShAt rs w g x) : ∃ kv : Nat → Value, Blk w g 90 (shC rs x.rule x.at_ (kv 0) (kv 1)) ∧ x.kids.length ≤ 2 ∧ ∀ k, k < 2 → (x.kids.length ≤ k ∧ kv k = .pointer none) ∨ ∃ b y, x.kids[k]? = some y ∧ kv k = ptrV b ∧ ShAt rs w b y := by
  cases h with
  | leaf _ r a hb =>
    refine ⟨fun _ => .pointer none, hb, by simp [Rd.kids], fun k _ => .inl ⟨by simp [Rd.kids], rfl⟩⟩
  | one _ r a g0 x hb hx =>
    refine ⟨fun k => if k = 0 then ptrV g0 else .pointer none, hb, by simp [Rd.kids], fun k hk => ?_⟩
    by_cases e : k = 0
    · subst e
      exact .inr ⟨g0, x, rfl, rfl, hx⟩
    · exact .inl ⟨by simp [Rd.kids]; omega, if_neg e⟩
  | two _ r a g0 g1 x y hb hx hy =>
    refine ⟨fun k => if k = 0 then ptrV g0 else ptrV g1, hb, by simp [Rd.kids], fun k hk => ?_⟩
    by_cases e : k = 0
    · subst e
      exact .inr ⟨g0, x, rfl, rfl, hx⟩
    · obtain rfl : k = 1 := by omega
      exact .inr ⟨g1, y, rfl, rfl, hy⟩
theorem size_kid {ks : List Rd} {k : Nat} {y : Rd} (h : ks[k]? = some y) : sizeR y ≤ sizeL ks := by
  induction ks generalizing k with
  | nil => simp at h
  | cons a ks ih =>
    rw [sizeL]
    cases k with
    | zero => simp at h; subst h; omega
    | succ k => have := ih (k := k) (by simpa using h); omega
def ExportP (x : Rd) (w : World) (e : Ending) (w' : World) : Prop := ∃ c, e = .returned (.agg c) ∧ RdAt (fun b => w.heap.size ≤ b) w' x c ∧ Below w.heap.size w w'
abbrev rdZ : Array Value := #[.int .i64 0, .int .i64 0, .slice none 0 0]
/-- the world while the new reading is begun -/
def InvX (w1 : World) (r a : Int) : List Bool → Unit → World → Prop
  | [ba, bs], _, wq => Below w1.heap.size w1 wq ∧ (ba = false → wq.heap.size = w1.heap.size) ∧ (ba = true → Blk wq w1.heap.size 34 (if bs then #[.int .i64 r, .int .i64 a, .slice none 0 0] else rdZ))
  | _, _, _ => False
/-- and while a kid is appended -/
def InvY (wr : World) (B gB : Nat) (r a : Int) (v : Value) (xs : List Rd) (y : Rd) : List Bool → Array Value × Nat × Value → World → Prop
  | [be, bb, ba, bs], gx, wq => Below B wr wq ∧ Blk wq B 34 rdZ ∧ Blk wq gB 34 #[.int .i64 r, .int .i64 a, if bs then gx.2.2 else v] ∧ (ba = false → AppR (fun b => B < b ∧ b ≠ gB) wq (gB + 1) v xs) ∧ (be = true → ba = false → RdAt (fun b => v.ownBlock ≠ some b ∧ B < b ∧ b ≠ gB) wq y gx.1) ∧ (bb = true → ba = false → Blk wq gx.2.1 34 gx.1) ∧
      (ba = true → AppR (fun b => B < b ∧ b ≠ gB) wq (gB + 1) gx.2.2 (xs ++ [y]))
  | _, _, _ => False
theorem index_two0 (a b : Value) (w : World) : (Instr.index 88 (.agg #[a, b]) (.int .i64 0)).run Try.prog w = .ok a w := by kernel_rfl
theorem index_two1 (a b : Value) (w : World) : (Instr.index 88 (.agg #[a, b]) (.int .i64 1)).run Try.prog w = .ok b w := by kernel_rfl
theorem InvY.keep {wr : World} {B gB : Nat} {r a : Int} {v : Value} {xs : List Rd} {y : Rd} {be bb ba bs : Bool} {gx : Array Value × Nat × Value} {wq w' : World} (h : InvY wr B gB r a v xs y [be, bb, ba, bs] gx wq) (hs : B ≤ wq.heap.size) (hb : Below wq.heap.size wq w') : InvY wr B gB r a v xs y [be, bb, ba, bs] gx w' := by
  obtain ⟨h1, h2, h3, h4, h5, h6, h7⟩ := h
  exact ⟨h1.trans (hb.mono hs), _root_.Go.Proofs.Ytmhddlhlniajpaa.keep hb h2, _root_.Go.Proofs.Ytmhddlhlniajpaa.keep hb h3, fun e => (h4 e).keep hb, fun e e' => (h5 e e').keep hb, fun e e' => _root_.Go.Proofs.Ytmhddlhlniajpaa.keep hb (h6 e e'), fun e => (h7 e).keep hb⟩
set_option maxRecDepth 100000 in
set_option maxHeartbeats 4000000 in
theorem export_any (rs : List Rul) : ∀ (m : Nat) (b : Nat) (x : Rd) (w : World), sizeR x ≤ m → ShAt rs w b x → Calls Try.prog 31 #[ptrV b] w (ExportP x w) := by
  intro m
  induction m with
  | zero => intro b x w h; obtain ⟨r, a, ks⟩ := x; simp only [sizeR] at h; omega
  | succ m ih =>
    intro b x w hm hS
    have IH := Lib.hid ih
    clear ih
    obtain ⟨i0, hi, hz0, hz1, hz2⟩ := info_parts info_rd
    have hba := bel_alloc w (.cells rdZ 34)
    obtain ⟨kv, hK, hkl, hkd⟩ := hS.kids
    have HK0 := Lib.hid hK
    have HK := Lib.hid (keep hba hK)
    have HKD := Lib.hid hkd
    have HKL := Lib.hid hkl
    have HM := Lib.hid hm
    have HB := Lib.hid hba
    have K0 := Lib.hid (Blk.new w 34 rdZ)
    have HS1 := Lib.hid (World.size_alloc w (.cells rdZ 34))
    clear hba hK hkd hkl hm hS
    go_enter Try.func31, Try.ntmps31
    go_upto_region 1 with (fail)
    generalize w.alloc (.cells rdZ 34) = w1 at *
    refine region_ghost (X := Unit) (by kernel_rfl) _ (fun gx => [.pointer (some ⟨b, 0, none⟩), .pointer (some ⟨b, 0, none⟩), .pointer (some ⟨b, 0, none⟩), .int .i64 x.rule, .pointer (some ⟨b, 0, none⟩), .pointer (some ⟨b, 0, none⟩), .pointer (some ⟨b, 1, none⟩), .int .i64 x.at_, .agg #[.int .i64 x.rule, .int .i64 x.at_, .slice none 0 0], .pointer (some ⟨w.heap.size + 1, 0, none⟩), undef]) [true, true, true, true, true, true, true, true, true, true, true] [9, 10] (InvX w1 x.rule x.at_) () (by kernel_rfl) (fun gx => by simp [fin, finOn, dstAt, List.range, List.range.loop, Act.put]; rfl) (fun _ => by kernel_rfl) (by kernel_rfl) ⟨below_drew (Below.refl _ _), (fun _ => rfl), fun h => by cases h⟩ ?_ ?_
    · refine ⟨fun L gx wq hL hb ha hI => ?_, fun L gx wq hL hb ha hI => ?_, fun L gx wq hL hb ha hI => ?_, fun L gx wq hL hb ha hI => ?_, fun L gx wq hL hb ha hI => ?_, fun L gx wq hL hb ha hI => ?_, fun L gx wq hL hb ha hI => ?_, fun L gx wq hL hb ha hI => ?_, fun L gx wq hL hb ha hI => ?_, fun L gx wq hL hb ha hI => ?_, fun L gx wq hL hb ha hI => ?_, trivial⟩
      · exact Gives.plain (v := .pointer (some ⟨b, 0, none⟩)) (w' := wq) (by kernel_rfl) rfl hI
      · exact Gives.plain (v := .pointer (some ⟨b, 0, none⟩)) (w' := wq) (by simp [go_sem]) rfl hI
      · exact Gives.plain (v := .pointer (some ⟨b, 0, none⟩)) (w' := wq) (by simp [go_sem]) rfl hI
      · have cJ := (keep hI.1 HK.out).cell 0
        exact Gives.plain (v := .int .i64 x.rule) (w' := wq) (by simp [go_sem, cJ]) rfl hI
      · exact Gives.plain (v := .pointer (some ⟨b, 0, none⟩)) (w' := wq) (by kernel_rfl) rfl hI
      · exact Gives.plain (v := .pointer (some ⟨b, 0, none⟩)) (w' := wq) (by simp [go_sem]) rfl hI
      · exact Gives.plain (v := .pointer (some ⟨b, 1, none⟩)) (w' := wq) (by simp [go_sem]) rfl hI
      · have cJ := (keep hI.1 HK.out).cell 1
        exact Gives.plain (v := .int .i64 x.at_) (w' := wq) (by simp [go_sem, cJ]) rfl hI
      · exact Gives.plain (v := .agg #[.int .i64 x.rule, .int .i64 x.at_, .slice none 0 0]) (w' := wq) (by simp [go_sem]) rfl hI
      · have e9 : L 9 = false := hL
        have e10 : L 10 = false := ha 10 (by kernel_rfl)
        simp only [List.map, e9, e10] at hI ⊢
        obtain ⟨hb1, hsz, _⟩ := hI
        have hsz := hsz rfl
        have hba := bel_alloc wq (.cells rdZ 34)
        exact Gives.value (v := .pointer (some ⟨wq.heap.size, 0, none⟩)) (w' := wq.alloc (.cells rdZ 34)) (by simp [go_sem]) ⟨(), by rw [hsz, HS1.out]; rfl, KeepsV.same, hb1.trans (hba.mono hb1.size), (fun h => by cases h), fun _ => by rw [← hsz]; exact Blk.new _ _ _⟩
      · have e9 : L 9 = true := hb 9 (by kernel_rfl)
        have e10 : L 10 = false := hL
        simp only [List.map, e9, e10] at hI ⊢
        obtain ⟨hb1, _, hk⟩ := hI
        have hk : Blk wq (w.heap.size + 1) 34 rdZ := by rw [← HS1.out]; exact hk rfl
        have c0 := hk.cell 0
        have c1 := hk.cell 1
        have c2 := hk.cell 2
        have fK := fun i => hk.frozen i
        exact Gives.skip (w' := ((wq.setCell ⟨w.heap.size + 1, 0, none⟩ (.int .i64 x.rule)).setCell ⟨w.heap.size + 1, 1, none⟩ (.int .i64 x.at_)).setCell ⟨w.heap.size + 1, 2, none⟩ (.slice none 0 0)) (by simp [go_sem, c0, c1, c2, fK]) ⟨(), rfl, KeepsV.same, ((hb1.setCell (p := ⟨w.heap.size + 1, 0, none⟩) (by rw [HS1.out]; exact Nat.le_refl _) _).setCell (p := ⟨w.heap.size + 1, 1, none⟩) (by rw [HS1.out]; exact Nat.le_refl _) _).setCell (p := ⟨w.heap.size + 1, 2, none⟩) (by rw [HS1.out]; exact Nat.le_refl _) _, (fun h => by cases h), fun _ => by rw [HS1.out]; exact ((hk.set_ 0 _).set_ 1 _).set_ 2 _⟩
    · intro gx wq hI
      obtain ⟨hb1, _, hk⟩ := hI
      have K1 : Hid (Blk wq (w.heap.size + 1) 34 #[.int .i64 x.rule, .int .i64 x.at_, .slice none 0 0]) := Lib.hid (by rw [← HS1.out]; exact hk rfl)
      have HKQ := Lib.hid (keep hb1 HK.out)
      have K0 := Lib.hid (keep hb1 K0.out)
      have HB := Lib.hid (HB.out.trans (hb1.mono HB.out.size))
      clear hb1 hk HK HS1
      have c3 := HKQ.out.cell 3
      have c4 := HKQ.out.cell 4
      go_wp2_with fail
      clear c3 c4
      go_loopw [19] (fun i wr => ∃ (k : Nat) (v : Value), k ≤ 2 ∧ i = .int .i64 k ∧ Hid (AppR (fun b => w.heap.size < b ∧ b ≠ w.heap.size + 1) wr (w.heap.size + 1 + 1) v (x.kids.take k)) ∧ Hid (Blk wr (w.heap.size + 1) 34 #[.int .i64 x.rule, .int .i64 x.at_, v]) ∧ Hid (Blk wr w.heap.size 34 rdZ) ∧ Hid (Below w.heap.size w wr)) (fun i _ => 2 - (intOf i).toNat)
      case atStart => exact ⟨0, _, by omega, rfl, by rw [List.take_zero]; exact AppR.nil _ _ _, K1, K0, HB⟩
      case round =>
        clear K1 K0 HB
        obtain ⟨k, v, hk2, rfl, HO, K1, K0, HB⟩ := hrel
        by_cases hlt : k < 2
        · rcases HKD.out k hlt with ⟨hkn, hkv⟩ | ⟨b', y, hy, hkv, hsy⟩
          · have HTK := Lib.hid (show x.kids.take (k + 1) = x.kids.take k by rw [List.take_of_length_le (by omega), List.take_of_length_le hkn])
            rw [← HTK.out] at HO
            have hk01 : k = 0 ∨ k = 1 := by omega
            clear hkn
            rcases hk01 with rfl | rfl
            · rw [hkv, show ((0 : Nat) : Int) = 0 from rfl]
              have hix := index_two0 (.pointer none) (kv 1)
              clear hkv
              go_wp2_with fail
              go_roundw
              case rel => exact ⟨1, _, by omega, rfl, HO, K1, K0, HB⟩
              case measure => simp [intOf]
            · rw [hkv, show ((1 : Nat) : Int) = 1 from rfl]
              have hix := index_two1 (kv 0) (.pointer none)
              clear hkv
              go_wp2_with fail
              go_roundw
              case rel => exact ⟨2, _, by omega, rfl, HO, K1, K0, HB⟩
              case measure => simp [intOf]
          · have HTK := Lib.hid (show x.kids.take (k + 1) = x.kids.take k ++ [y] by rw [List.take_add_one, hy]; rfl)
            have HS0Y := Lib.hid hsy
            have HSZ := Lib.hid (show sizeR y ≤ m by
              have h1 := HM.out
              obtain ⟨r9, a9, ks9⟩ := x
              rw [sizeR] at h1
              have h2 := size_kid (show ks9[k]? = some y from hy)
              omega)
            have HXL := Lib.hid (show (x.kids.take k).length ≤ 2 by rw [List.length_take]; omega)
            have hk01 : k = 0 ∨ k = 1 := by omega
            clear hy hsy
            rcases hk01 with rfl | rfl
            · rw [hkv, show ((0 : Nat) : Int) = 0 from rfl]
              have hix := index_two0 (ptrV b') (kv 1)
              clear hkv
              go_upto_region 6 with (fail)
              clear hix
              refine region_ghost (X := Array Value × Nat × Value) (by kernel_rfl) _ (fun gx => [.pointer (some ⟨w.heap.size + 1, 2, none⟩), v, ptrV b', .agg gx.1, .slice (some ⟨gx.2.1, 0, none⟩) 1 1, gx.2.2, .pointer (some ⟨w.heap.size + 1, 2, none⟩), undef]) [true, true, true, true, true, true, true, true] [3, 4, 5, 7] (InvY w w.heap.size (w.heap.size + 1) x.rule x.at_ v (x.kids.take 0) y) (#[], 0, .nilFunc) (by kernel_rfl) (fun gx => by simp [fin, finOn, dstAt, List.range, List.range.loop, Act.put]; rfl) (fun _ => by kernel_rfl) (by kernel_rfl) ⟨below_drew HB.out, K0.out.drew, K1.out.drew, (fun _ => HO.out.keep (below_drew (Below.refl _ _))), (fun h => by cases h), (fun h => by cases h), fun h => by cases h⟩ ?_ ?_
              · refine ⟨fun L gx wq hL hb ha hI => ?_, fun L gx wq hL hb ha hI => ?_, fun L gx wq hL hb ha hI => ?_, fun L gx wq hL hb ha hI => ?_, fun L gx wq hL hb ha hI => ?_, fun L gx wq hL hb ha hI => ?_, fun L gx wq hL hb ha hI => ?_, fun L gx wq hL hb ha hI => ?_, trivial⟩
                · exact Gives.plain (v := .pointer (some ⟨w.heap.size + 1, 2, none⟩)) (w' := wq) (by simp [go_sem]) rfl hI
                · have e7 : L 7 = false := ha 7 (by kernel_rfl)
                  have cJ := hI.2.2.1.cell 2
                  simp only [e7] at cJ
                  exact Gives.plain (v := v) (w' := wq) (by simp [go_sem, cJ]) rfl hI
                · exact Gives.plain (v := ptrV b') (w' := wq) (by kernel_rfl) rfl hI
                · have e3 : L 3 = false := hL
                  have e4 : L 4 = false := ha 4 (by kernel_rfl)
                  have e5 : L 5 = false := ha 5 (by kernel_rfl)
                  simp only [List.map, e3, e4, e5] at hI ⊢
                  have hsz : w.heap.size ≤ wq.heap.size := by have := hI.2.1.lt; omega
                  refine Gives.call (f := 31) (args := #[ptrV b']) (w' := wq) (by kernel_rfl) ((IH.out b' y wq HSZ.out (HS0Y.out.keep hI.1)).mono ?_)
                  rintro e wa ⟨c, rfl, hc, hb5⟩
                  have hK := hI.keep hsz hb5
                  exact ⟨_, rfl, (c, gx.2), rfl, (KeepsV.of_same ⟨.inr (.inr rfl), .inr (.inr rfl), .inr (.inr rfl), .inl rfl, (by first | exact .inr (.inr rfl) | exact .inr (.inl (by kernel_rfl))), (by first | exact .inr (.inr rfl) | exact .inr (.inl (by kernel_rfl))), .inr (.inr rfl), .inr (.inr rfl), trivial⟩), hK.1, hK.2.1, hK.2.2.1, hK.2.2.2.1, (fun _ _ => hc.any fun b _ hb => ⟨fun h => by have := ((hI.2.2.2.1 rfl).lt b h).2; omega, by have := hI.2.1.lt; omega, by have := hI.2.2.1.lt; omega⟩), (fun h => by cases h), fun h => by cases h⟩
                · have e3 : L 3 = true := hb 3 (by kernel_rfl)
                  have e4 : L 4 = false := hL
                  have e5 : L 5 = false := ha 5 (by kernel_rfl)
                  simp only [List.map, e3, e4, e5] at hI ⊢
                  have hsz : w.heap.size ≤ wq.heap.size := by have := hI.2.1.lt; omega
                  have hK := hI.keep hsz (bel_alloc wq (.cells gx.1 34))
                  have hz := (hI.2.2.2.2.1 rfl rfl).size
                  obtain ⟨gc, gb, gv⟩ := gx
                  obtain ⟨A8, c8, rfl, _⟩ := (hI.2.2.2.2.1 rfl rfl).form
                  exact Gives.value (v := .slice (some ⟨wq.heap.size, 0, none⟩) 1 1) (w' := wq.alloc (.cells (rdC y.rule y.at_ A8 y.kids.length c8) 34)) (by simp [go_sem]) ⟨(_, wq.heap.size, gv), rfl, (KeepsV.of_same ⟨.inr (.inr rfl), .inr (.inr rfl), .inr (.inr rfl), (by first | exact .inr (.inr rfl) | exact .inr (.inl (by kernel_rfl))), .inl rfl, (by first | exact .inr (.inr rfl) | exact .inr (.inl (by kernel_rfl))), .inr (.inr rfl), .inr (.inr rfl), trivial⟩), hK.1, hK.2.1, hK.2.2.1, hK.2.2.2.1, hK.2.2.2.2.1, (fun _ _ => Blk.new _ _ _), fun h => by cases h⟩
                · have e3 : L 3 = true := hb 3 (by kernel_rfl)
                  have e4 : L 4 = true := hb 4 (by kernel_rfl)
                  have e5 : L 5 = false := hL
                  have e7 : L 7 = false := ha 7 (by kernel_rfl)
                  simp only [List.map, e3, e4, e5, e7] at hI ⊢
                  obtain ⟨h1, h2, h3, h4, h5, h6, _⟩ := hI
                  obtain ⟨css, ho, hl, hr⟩ := h4 rfl
                  have hxl := HXL.out
                  have hrow : ∀ b, v.ownBlock = some b → w.heap.size + 1 + 1 ≤ b := fun b hb => ((h4 rfl).lt b hb).1
                  exact gives_append (.tmp 25) (.tmp 28) 26 rfl (w.heap.size + 1 + 1) 34 i0 (.agg #[.int .i64 0, .int .i64 0, .slice none 0 0]) 3 40 Try.underlying26 hi hz0 hz1 hz2 rfl (by decide) v _ _ rfl ho wq.heap.size (some ⟨gx.2.1, 0, none⟩) 1 1 gx.1.toList rfl (reads_agg (h6 rfl rfl) (h5 rfl rfl).size) (rd_one (h5 rfl rfl)) (by unfold maxLen; omega) (by omega) (by have := h3.lt; omega) (fun v' w' g2 g3 g4 => ⟨(gx.1, gx.2.1, v'), rfl, (KeepsV.of_same ⟨.inr (.inr rfl), .inr (.inr rfl), .inr (.inr rfl), (by first | exact .inr (.inr rfl) | exact .inr (.inl (by kernel_rfl))), (by first | exact .inr (.inr rfl) | exact .inr (.inl (by kernel_rfl))), .inl rfl, .inr (.inr rfl), .inr (.inr rfl), trivial⟩), h1.grown g3 (by have := h2.lt; omega) (fun b hb => by have := hrow b hb; omega), h2.grown g3 (fun e => by have := hrow _ e.symm; omega), h3.grown g3 (fun e => by have := hrow _ e.symm; omega), (fun h => by cases h), (fun _ h => by cases h), (fun _ h => by cases h), fun _ => AppR.push hl hr (h5 rfl rfl) g2 g3 g4⟩)
                · exact Gives.plain (v := .pointer (some ⟨w.heap.size + 1, 2, none⟩)) (w' := wq) (by simp [go_sem]) rfl hI
                · have e3 : L 3 = true := hb 3 (by kernel_rfl)
                  have e4 : L 4 = true := hb 4 (by kernel_rfl)
                  have e5 : L 5 = true := hb 5 (by kernel_rfl)
                  have e7 : L 7 = false := hL
                  simp only [List.map, e3, e4, e5, e7] at hI ⊢
                  obtain ⟨gc, gb, gv⟩ := gx
                  obtain ⟨h1, h2, h3, _, _, _, h7⟩ := hI
                  have h3 : Blk wq (w.heap.size + 1) 34 #[.int .i64 x.rule, .int .i64 x.at_, v] := h3
                  obtain ⟨A5, c5, e9, _⟩ := (h7 rfl).form (fun b hb => ⟨by omega, by omega⟩)
                  dsimp only at e9
                  subst e9
                  have cJ := h3.cell 2
                  have fJ := h3.frozen 2
                  have hfar : ∀ b, (Value.slice A5 (x.kids.take 0 ++ [y]).length c5).ownBlock = some b → w.heap.size + 1 + 1 ≤ b := fun b hb => ((h7 rfl).lt b hb).1
                  exact Gives.skip (w' := wq.setCell ⟨w.heap.size + 1, 2, none⟩ (.slice A5 (x.kids.take 0 ++ [y]).length c5)) (by simp [go_sem, cJ, fJ]) ⟨_, rfl, KeepsV.same, h1.setCell (p := ⟨w.heap.size + 1, 2, none⟩) (by show w.heap.size ≤ w.heap.size + 1; omega) _, h2.far (by show w.heap.size ≠ w.heap.size + 1; omega) _, h3.set_ 2 _, (fun h => by cases h), (fun _ h => by cases h), (fun _ h => by cases h), fun _ => (h7 rfl).set_ (p := ⟨w.heap.size + 1, 2, none⟩) (fun h => h.2 rfl) (by show w.heap.size + 1 < _; omega) _⟩
              · intro gx wq hI
                obtain ⟨h1, h2, h3, _, _, _, h7⟩ := hI
                have HB := Lib.hid h1
                have K0 := Lib.hid h2
                have K1 := Lib.hid h3
                have HO := Lib.hid (h7 rfl)
                rw [← HTK.out] at HO
                clear h1 h2 h3 h7
                go_wp2_with fail
                go_roundw
                case rel => exact ⟨1, _, by omega, rfl, HO, K1, K0, HB⟩
                case measure => simp [intOf]
            · rw [hkv, show ((1 : Nat) : Int) = 1 from rfl]
              have hix := index_two1 (kv 0) (ptrV b')
              clear hkv
              go_upto_region 6 with (fail)
              clear hix
              refine region_ghost (X := Array Value × Nat × Value) (by kernel_rfl) _ (fun gx => [.pointer (some ⟨w.heap.size + 1, 2, none⟩), v, ptrV b', .agg gx.1, .slice (some ⟨gx.2.1, 0, none⟩) 1 1, gx.2.2, .pointer (some ⟨w.heap.size + 1, 2, none⟩), undef]) [true, true, true, true, true, true, true, true] [3, 4, 5, 7] (InvY w w.heap.size (w.heap.size + 1) x.rule x.at_ v (x.kids.take 1) y) (#[], 0, .nilFunc) (by kernel_rfl) (fun gx => by simp [fin, finOn, dstAt, List.range, List.range.loop, Act.put]; rfl) (fun _ => by kernel_rfl) (by kernel_rfl) ⟨below_drew HB.out, K0.out.drew, K1.out.drew, (fun _ => HO.out.keep (below_drew (Below.refl _ _))), (fun h => by cases h), (fun h => by cases h), fun h => by cases h⟩ ?_ ?_
              · refine ⟨fun L gx wq hL hb ha hI => ?_, fun L gx wq hL hb ha hI => ?_, fun L gx wq hL hb ha hI => ?_, fun L gx wq hL hb ha hI => ?_, fun L gx wq hL hb ha hI => ?_, fun L gx wq hL hb ha hI => ?_, fun L gx wq hL hb ha hI => ?_, fun L gx wq hL hb ha hI => ?_, trivial⟩
                · exact Gives.plain (v := .pointer (some ⟨w.heap.size + 1, 2, none⟩)) (w' := wq) (by simp [go_sem]) rfl hI
                · have e7 : L 7 = false := ha 7 (by kernel_rfl)
                  have cJ := hI.2.2.1.cell 2
                  simp only [e7] at cJ
                  exact Gives.plain (v := v) (w' := wq) (by simp [go_sem, cJ]) rfl hI
                · exact Gives.plain (v := ptrV b') (w' := wq) (by kernel_rfl) rfl hI
                · have e3 : L 3 = false := hL
                  have e4 : L 4 = false := ha 4 (by kernel_rfl)
                  have e5 : L 5 = false := ha 5 (by kernel_rfl)
                  simp only [List.map, e3, e4, e5] at hI ⊢
                  have hsz : w.heap.size ≤ wq.heap.size := by have := hI.2.1.lt; omega
                  refine Gives.call (f := 31) (args := #[ptrV b']) (w' := wq) (by kernel_rfl) ((IH.out b' y wq HSZ.out (HS0Y.out.keep hI.1)).mono ?_)
                  rintro e wa ⟨c, rfl, hc, hb5⟩
                  have hK := hI.keep hsz hb5
                  exact ⟨_, rfl, (c, gx.2), rfl, (KeepsV.of_same ⟨.inr (.inr rfl), .inr (.inr rfl), .inr (.inr rfl), .inl rfl, (by first | exact .inr (.inr rfl) | exact .inr (.inl (by kernel_rfl))), (by first | exact .inr (.inr rfl) | exact .inr (.inl (by kernel_rfl))), .inr (.inr rfl), .inr (.inr rfl), trivial⟩), hK.1, hK.2.1, hK.2.2.1, hK.2.2.2.1, (fun _ _ => hc.any fun b _ hb => ⟨fun h => by have := ((hI.2.2.2.1 rfl).lt b h).2; omega, by have := hI.2.1.lt; omega, by have := hI.2.2.1.lt; omega⟩), (fun h => by cases h), fun h => by cases h⟩
                · have e3 : L 3 = true := hb 3 (by kernel_rfl)
                  have e4 : L 4 = false := hL
                  have e5 : L 5 = false := ha 5 (by kernel_rfl)
                  simp only [List.map, e3, e4, e5] at hI ⊢
                  have hsz : w.heap.size ≤ wq.heap.size := by have := hI.2.1.lt; omega
                  have hK := hI.keep hsz (bel_alloc wq (.cells gx.1 34))
                  have hz := (hI.2.2.2.2.1 rfl rfl).size
                  obtain ⟨gc, gb, gv⟩ := gx
                  obtain ⟨A8, c8, rfl, _⟩ := (hI.2.2.2.2.1 rfl rfl).form
                  exact Gives.value (v := .slice (some ⟨wq.heap.size, 0, none⟩) 1 1) (w' := wq.alloc (.cells (rdC y.rule y.at_ A8 y.kids.length c8) 34)) (by simp [go_sem]) ⟨(_, wq.heap.size, gv), rfl, (KeepsV.of_same ⟨.inr (.inr rfl), .inr (.inr rfl), .inr (.inr rfl), (by first | exact .inr (.inr rfl) | exact .inr (.inl (by kernel_rfl))), .inl rfl, (by first | exact .inr (.inr rfl) | exact .inr (.inl (by kernel_rfl))), .inr (.inr rfl), .inr (.inr rfl), trivial⟩), hK.1, hK.2.1, hK.2.2.1, hK.2.2.2.1, hK.2.2.2.2.1, (fun _ _ => Blk.new _ _ _), fun h => by cases h⟩
                · have e3 : L 3 = true := hb 3 (by kernel_rfl)
                  have e4 : L 4 = true := hb 4 (by kernel_rfl)
                  have e5 : L 5 = false := hL
                  have e7 : L 7 = false := ha 7 (by kernel_rfl)
                  simp only [List.map, e3, e4, e5, e7] at hI ⊢
                  obtain ⟨h1, h2, h3, h4, h5, h6, _⟩ := hI
                  obtain ⟨css, ho, hl, hr⟩ := h4 rfl
                  have hxl := HXL.out
                  have hrow : ∀ b, v.ownBlock = some b → w.heap.size + 1 + 1 ≤ b := fun b hb => ((h4 rfl).lt b hb).1
                  exact gives_append (.tmp 25) (.tmp 28) 26 rfl (w.heap.size + 1 + 1) 34 i0 (.agg #[.int .i64 0, .int .i64 0, .slice none 0 0]) 3 40 Try.underlying26 hi hz0 hz1 hz2 rfl (by decide) v _ _ rfl ho wq.heap.size (some ⟨gx.2.1, 0, none⟩) 1 1 gx.1.toList rfl (reads_agg (h6 rfl rfl) (h5 rfl rfl).size) (rd_one (h5 rfl rfl)) (by unfold maxLen; omega) (by omega) (by have := h3.lt; omega) (fun v' w' g2 g3 g4 => ⟨(gx.1, gx.2.1, v'), rfl, (KeepsV.of_same ⟨.inr (.inr rfl), .inr (.inr rfl), .inr (.inr rfl), (by first | exact .inr (.inr rfl) | exact .inr (.inl (by kernel_rfl))), (by first | exact .inr (.inr rfl) | exact .inr (.inl (by kernel_rfl))), .inl rfl, .inr (.inr rfl), .inr (.inr rfl), trivial⟩), h1.grown g3 (by have := h2.lt; omega) (fun b hb => by have := hrow b hb; omega), h2.grown g3 (fun e => by have := hrow _ e.symm; omega), h3.grown g3 (fun e => by have := hrow _ e.symm; omega), (fun h => by cases h), (fun _ h => by cases h), (fun _ h => by cases h), fun _ => AppR.push hl hr (h5 rfl rfl) g2 g3 g4⟩)
                · exact Gives.plain (v := .pointer (some ⟨w.heap.size + 1, 2, none⟩)) (w' := wq) (by simp [go_sem]) rfl hI
                · have e3 : L 3 = true := hb 3 (by kernel_rfl)
                  have e4 : L 4 = true := hb 4 (by kernel_rfl)
                  have e5 : L 5 = true := hb 5 (by kernel_rfl)
                  have e7 : L 7 = false := hL
                  simp only [List.map, e3, e4, e5, e7] at hI ⊢
                  obtain ⟨gc, gb, gv⟩ := gx
                  obtain ⟨h1, h2, h3, _, _, _, h7⟩ := hI
                  have h3 : Blk wq (w.heap.size + 1) 34 #[.int .i64 x.rule, .int .i64 x.at_, v] := h3
                  obtain ⟨A5, c5, e9, _⟩ := (h7 rfl).form (fun b hb => ⟨by omega, by omega⟩)
                  dsimp only at e9
                  subst e9
                  have cJ := h3.cell 2
                  have fJ := h3.frozen 2
                  have hfar : ∀ b, (Value.slice A5 (x.kids.take 1 ++ [y]).length c5).ownBlock = some b → w.heap.size + 1 + 1 ≤ b := fun b hb => ((h7 rfl).lt b hb).1
                  exact Gives.skip (w' := wq.setCell ⟨w.heap.size + 1, 2, none⟩ (.slice A5 (x.kids.take 1 ++ [y]).length c5)) (by simp [go_sem, cJ, fJ]) ⟨_, rfl, KeepsV.same, h1.setCell (p := ⟨w.heap.size + 1, 2, none⟩) (by show w.heap.size ≤ w.heap.size + 1; omega) _, h2.far (by show w.heap.size ≠ w.heap.size + 1; omega) _, h3.set_ 2 _, (fun h => by cases h), (fun _ h => by cases h), (fun _ h => by cases h), fun _ => (h7 rfl).set_ (p := ⟨w.heap.size + 1, 2, none⟩) (fun h => h.2 rfl) (by show w.heap.size + 1 < _; omega) _⟩
              · intro gx wq hI
                obtain ⟨h1, h2, h3, _, _, _, h7⟩ := hI
                have HB := Lib.hid h1
                have K0 := Lib.hid h2
                have K1 := Lib.hid h3
                have HO := Lib.hid (h7 rfl)
                rw [← HTK.out] at HO
                clear h1 h2 h3 h7
                go_wp2_with fail
                go_roundw
                case rel => exact ⟨2, _, by omega, rfl, HO, K1, K0, HB⟩
                case measure => simp [intOf]
        · obtain rfl : k = 2 := by omega
          rw [List.take_of_length_le HKL.out] at HO
          obtain ⟨A5, cap5, rfl, hl5, hc5, hR5⟩ := HO.out.form (fun b hb => ⟨by omega, by omega⟩)
          have HR5 := Lib.hid hR5
          have c1 := fun i => K1.out.cell i
          have c0 := fun i => K0.out.cell i
          have f1 := fun i => K1.out.frozen i
          have f0 := fun i => K0.out.frozen i
          go_wp2_with fail
          have hwf := ((K0.out.set_ 0 (.int .i64 x.rule)).set_ 1 (.int .i64 x.at_)).set_ 2 (.slice A5 x.kids.length cap5)
          have hbf := ((HB.out.setCell (p := ⟨w.heap.size, 0, none⟩) (Nat.le_refl _) (.int .i64 x.rule)).setCell (p := ⟨w.heap.size, 1, none⟩) (Nat.le_refl _) (.int .i64 x.at_)).setCell (p := ⟨w.heap.size, 2, none⟩) (Nat.le_refl _) (.slice A5 x.kids.length cap5)
          have hrf : RdsAt (fun b => w.heap.size ≤ b) (((wr.setCell ⟨w.heap.size, 0, none⟩ (.int .i64 x.rule)).setCell ⟨w.heap.size, 1, none⟩ (.int .i64 x.at_)).setCell ⟨w.heap.size, 2, none⟩ (.slice A5 x.kids.length cap5)) A5 x.kids := by
            refine HR5.out.map (Nat.le_trans (grown_set _ _ _).size (Nat.le_trans (grown_set _ _ _).size (grown_set _ _ _).size)) (fun b _ h => by omega) fun q _ hq => ?_
            have hne : ∀ o, q ≠ ⟨w.heap.size, o, none⟩ := fun o e => by rw [e] at hq; exact Nat.lt_irrefl _ hq.1
            rw [World.cell?_setCell_other _ _ _ _ (fun e => hne 2 e.symm), World.cell?_setCell_other _ _ _ _ (fun e => hne 1 e.symm), World.cell?_setCell_other _ _ _ _ (fun e => hne 0 e.symm)]
          generalize ((wr.setCell ⟨w.heap.size, 0, none⟩ (.int .i64 x.rule)).setCell ⟨w.heap.size, 1, none⟩ (.int .i64 x.at_)).setCell ⟨w.heap.size, 2, none⟩ (.slice A5 x.kids.length cap5) = wf at *
          have dC := fun i => hwf.cell i
          refine bodyPost_ret (v := .agg (rdC x.rule x.at_ A5 x.kids.length cap5)) (by simp [results, Try.results31, go_sem, dC]) rfl ⟨_, rfl, ?_, hbf⟩
          obtain ⟨r9, a9, ks9⟩ := x
          exact RdAt.of hl5 hc5 hrf
end Go.Proofs.Ytmhddlhlniajpaa
