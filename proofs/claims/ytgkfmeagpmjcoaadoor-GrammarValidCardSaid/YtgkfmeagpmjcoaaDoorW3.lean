/- parse: the rule of a line, and whether it is one that is valid alone. -/
import Derived.Test.YtgkfmeagpmjcoaaDoorW2
import Derived.Laws.EntriesVeiled
namespace Go.Proofs.YtgkfmeagpmjcoaaDoor
open Go.RowKit
theorem blk6 {w : World} {g : Nat} {t : TypeId} {x0 x1 x2 x3 x4 x5 : Value} (a b c d e f : Value) (h : Blk w g t #[x0, x1, x2, x3, x4, x5]) : Blk ((((((w.setCell ⟨g, 0, none⟩ a).setCell ⟨g, 1, none⟩ b).setCell ⟨g, 2, none⟩ c).setCell ⟨g, 3, none⟩ d).setCell ⟨g, 4, none⟩ e).setCell ⟨g, 5, none⟩ f) g t #[a, b, c, d, e, f] := by
  have := (((((h.set_ 0 a).set_ 1 b).set_ 2 c).set_ 3 d).set_ 4 e).set_ 5 f
  simpa using this
theorem only6 (w : World) (g : Nat) (a b c d e f : Value) : Only g w ((((((w.setCell ⟨g, 0, none⟩ a).setCell ⟨g, 1, none⟩ b).setCell ⟨g, 2, none⟩ c).setCell ⟨g, 3, none⟩ d).setCell ⟨g, 4, none⟩ e).setCell ⟨g, 5, none⟩ f) :=
  (((((Only.set g 0 w a).trans (Only.set g 1 _ b)).trans (Only.set g 2 _ c)).trans (Only.set g 3 _ d)).trans (Only.set g 4 _ e)).trans (Only.set g 5 _ f)
theorem Only.below {g B : Nat} {w0 w w' : World} (h : Only g w w') (hb : Below B w0 w) (hg : B ≤ g) : Below B w0 w' := hb.trans (h.bel.mono hg)
structure Glb (w : World) : Prop where
  tab : Tab w
  len : ∃ m, w.cell? ⟨0, 0, none⟩ = some (.int .i64 m)
  big : 1 ≤ w.heap.size
theorem Glb.keep {w w' : World} (h : Glb w) (hb : Below w.heap.size w w') : Glb w' := by
  obtain ⟨h1, ⟨m, hm⟩, h5⟩ := h
  exact ⟨h1.keep hb, ⟨m, (hb.cell (p := ⟨0, 0, none⟩) (by show 0 < _; omega)).trans hm⟩, Nat.le_trans h5 hb.size⟩
theorem psplit_any (s : ByteArray) (w : World) (hG : Glb w) (hs : s.size ≤ 1000000) : Calls Tryd.prog 53 #[.string s, .string ⟨#[32]⟩] w fun e w' => e = .returned (.slice (some ⟨w.heap.size, 0, none⟩) (splitL 32 s.data.toList).length (splitL 32 s.data.toList).length) ∧ Below w.heap.size w w' ∧ RowAt w' ⟨w.heap.size, 0, none⟩ (splitL 32 s.data.toList) ∧ w.heap.size < w'.heap.size := by
  obtain ⟨m, hm⟩ := hG.len
  refine (Tryd.strings_Split s ⟨#[32]⟩ m w (by omega) hm (by decide)).mono ?_
  rintro e w' ⟨rfl, rfl⟩
  rw [countB_one, splitB_one]
  refine ⟨rfl, bel_alloc _ _, fun j p hj => ?_, by simp⟩
  rw [show (⟨w.heap.size, 0, none⟩ : Addr).add j = ⟨w.heap.size, j, none⟩ by unfold Addr.add; simp; omega]
  rw [Blk.cell (Blk.new w 9 _)]
  simp [hj]
theorem split_len (c : UInt8) : ∀ l : List UInt8, (splitL c l).length ≤ l.length + 1 ∧ ∀ p ∈ splitL c l, p.length ≤ l.length
  | [] => by simp [splitL]
  | x :: r => by
    obtain ⟨h1, h2⟩ := split_len c r
    cases h : splitL c r with
    | nil => exact absurd h (splitL_ne c r)
    | cons a b =>
      rw [h] at h1 h2
      unfold splitL
      rw [h]
      split
      · refine ⟨by simp at h1 ⊢; omega, fun p hp => ?_⟩
        rcases List.mem_cons.1 hp with rfl | hp
        · simp
        · have := h2 p hp; simp; omega
      · refine ⟨by simp at h1 ⊢; omega, fun p hp => ?_⟩
        rcases List.mem_cons.1 hp with rfl | hp
        · have := h2 a (by simp); simpa using this
        · have := h2 p (List.mem_cons_of_mem _ hp); simp; omega
def shpAt (k : Nat) : Shp := if k = 0 then sh1 else if k = 1 then sh2 else if k = 2 then sh3 else sh4
abbrev shpC (s : Shp) : Array Value := #[.int .i64 s.kind, .string (bys s.word), .bool s.sy, .bool s.le, .bool s.ri]
theorem index_shape (k : Nat) (hk : k < 4) (w : World) : (Instr.index 66 shapesV (.int .i64 (k : Int))).run Tryd.prog w = .ok (.agg (shpC (shpAt k))) w := by
  match k, hk with
  | 0, _ => exact index_shape1 w
  | 1, _ => exact index_shape2 w
  | 2, _ => exact index_shape3 w
  | 3, _ => exact index_shape4 w
/-- the world while the result is laid -/
def InvQ (rr : Rul) (ad : Addr) (n : Nat) (w0 : World) (S : Nat) : List Bool → World → Prop
  | [b8], w => Hid (Blk w (S + 3) 39 rr.c) ∧ Hid (Blk w (S + 1) 27 #[.slice (some ad) n n]) ∧ Hid (Blk w w0.heap.size 39 (if b8 then rr.c else zeroR.c)) ∧ Hid (Below w0.heap.size w0 w) ∧ w0.heap.size + 1 < S + 1
  | _, _ => False
theorem parseW_at (qs : List (List UInt8)) {k : Nat} (hk : k < 4) : parseW ((shpAt k).word :: qs) = readS (shpAt k) qs := by
  match k, hk with
  | 0, _ => rfl
  | 1, _ => rfl
  | 2, _ => rfl
  | 3, _ => rfl
theorem take_fits (b : Bool) {ps : List (List UInt8)} (h : ∀ p ∈ ps, p.length ≤ 1000000) : ∀ p ∈ (takeL b ps).2, p.length ≤ 1000000 := by
  intro p hp
  cases b
  · exact h p hp
  · exact h p (List.mem_of_mem_tail hp)
/-- the world while the rule is made: what is taken, and whether the rule has its box -/
def InvP (sh : Shp) (qs : List (List UInt8)) (w0 : World) (S : Nat) : List Bool → World → Prop
  | [b5, b7, b9, b12, b13], w => Hid (Rest w (S + 1) (w0.heap.size + 1) (if b9 then (takeL true (takeL true (takeL sh.sy qs).2).2).2 else if b7 then (takeL true (takeL sh.sy qs).2).2 else if b5 then (takeL sh.sy qs).2 else qs)) ∧ Hid (Blk w S 65 (shpC sh)) ∧ Hid (Blk w (S + 2) 73 #[takeV (S + 1)]) ∧ Hid (Blk w w0.heap.size 39 zeroR.c) ∧ Hid (Below w0.heap.size w0 w) ∧ Hid (w.heap.size = if b12 then S + 4 else S + 3) ∧ (b12 = true → Hid (Blk w (S + 3) 39 (if b13 then #[.int .i64 sh.kind, .string (bys (takeL sh.sy qs).1), .string (bys (takeL true (takeL sh.sy qs).2).1), .int .i64 (numB (takeL true (takeL true (takeL sh.sy qs).2).2).1), .int .i64 0, .int .i64 0] else zeroR.c)))
  | _, _ => False
theorem InvP.step {sh : Shp} {qs : List (List UInt8)} {w0 w w' : World} {S : Nat} {a b c a' b' c' d e : Bool} (h : InvP sh qs w0 S [a, b, c, d, e] w) (h1 : Rest w' (S + 1) (w0.heap.size + 1) (if c' then (takeL true (takeL true (takeL sh.sy qs).2).2).2 else if b' then (takeL true (takeL sh.sy qs).2).2 else if a' then (takeL sh.sy qs).2 else qs)) (h2 : Only (S + 1) w w') : InvP sh qs w0 S [a', b', c', d, e] w' := by
  obtain ⟨i0, i1, i2, i3, i4, i5, i6⟩ := h
  have hlt := i1.out.lt
  have hlt2 := i3.out.lt
  have hgw := i0.out.lt
  exact ⟨h1, h2.blk (by omega) i1.out, h2.blk (by omega) i2.out, h2.blk (by omega) i3.out, h2.below i4.out (by omega), h2.size.trans i5.out, fun hd => h2.blk (by omega) (i6 hd).out⟩
set_option maxRecDepth 100000 in
set_option maxHeartbeats 1000000 in
theorem parse1_any (s : ByteArray) (w : World) (hG : Glb w) (hs : s.size ≤ 900000) : Calls Tryd.prog 35 #[.string s] w fun e w' => e = .returned (.tuple #[(parseW (splitL 32 s.data.toList)).1.v, .bool (parseW (splitL 32 s.data.toList)).2]) ∧ Below w.heap.size w w' := by
  have HG := Lib.hid hG
  have hsl := split_len 32 s.data.toList
  have hsz : s.data.toList.length = s.size := by simp
  have HL := Lib.hid (show (splitL 32 s.data.toList).length ≤ 1000000 by omega)
  have HF := Lib.hid (show ∀ p ∈ splitL 32 s.data.toList, p.length ≤ 1000000 from fun p hp => by have := hsl.2 p hp; omega)
  have HNE := Lib.hid (splitL_ne 32 s.data.toList)
  clear hG hsl hsz
  go_enter Tryd.func35, Tryd.ntmps35
  go_wp2_with fail
  have K2 := Lib.hid (Blk.new w 39 zeroR.c)
  have H0 := Lib.hid (bel_alloc w (.cells zeroR.c 39))
  refine (psplit_any s _ (HG.out.keep H0.out) (by omega)).mono ?_
  rintro e w1 ⟨rfl, hb, hrow, hgw⟩
  generalize hws : splitL 32 s.data.toList = ws at *
  have HWS := Lib.hid hws
  clear hws
  have K2 := Lib.hid (keep hb K2.out)
  have H1 := Lib.hid (H0.out.trans (hb.mono H0.out.size))
  have HROW := Lib.hid hrow
  simp only [World.size_alloc] at HROW hgw
  clear hb hrow H0
  go_wp2_with fail
  refine (shapes_any w1).mono ?_
  rintro e w2 ⟨rfl, hb⟩
  have K2 := Lib.hid (keep hb K2.out)
  have H1 := Lib.hid (H1.out.trans (hb.mono H1.out.size))
  have HROW := Lib.hid (show RowAt w2 ⟨w.heap.size + 1, 0, none⟩ ws from fun j p hj => (hb.cell (by rw [add_block]; exact hgw)).trans (HROW.out j p hj))
  have hgw2 : w.heap.size + 1 < w2.heap.size := Nat.lt_of_lt_of_le hgw hb.size
  clear hb hgw
  go_wp2_with fail
  go_loopw [14] (fun i wr => ∃ k : Nat, k ≤ 4 ∧ i = .int .i64 k ∧ Hid (∀ j, j < k → ws.headD [] ≠ (shpAt j).word) ∧ Hid (Blk wr w.heap.size 39 zeroR.c) ∧ Hid (Below w.heap.size w wr) ∧ Hid (RowAt wr ⟨w.heap.size + 1, 0, none⟩ ws) ∧ w.heap.size + 1 < wr.heap.size) (fun i _ => 4 - (intOf i).toNat)
  case atStart => exact ⟨0, by omega, rfl, (fun j hj => by omega), K2, H1, HROW, hgw2⟩
  case round =>
    clear K2 H1 HROW hgw2
    obtain ⟨k, hk, rfl, HJ, K2, H1, HROW, hgw⟩ := hrel
    by_cases hlt : k < 4
    · have hix := index_shape k hlt
      obtain ⟨p, qs, rfl⟩ : ∃ p qs, ws = p :: qs := by
        cases ws with
        | nil => exact absurd rfl HNE.out
        | cons p qs => exact ⟨p, qs, rfl⟩
      generalize hsh : shpAt k = sh at *
      have HSH := Lib.hid hsh
      clear hsh
      go_upto_region 5 with (fail)
      clear hix
      have KS := Lib.hid (Blk.new wr 65 (shpC sh))
      have K2 := Lib.hid (K2.out.alloc (.cells (shpC sh) 65))
      have H1 := Lib.hid (H1.out.alloc H1.out.size (.cells (shpC sh) 65))
      have HROW := Lib.hid (show RowAt (wr.alloc (.cells (shpC sh) 65)) ⟨w.heap.size + 1, 0, none⟩ (p :: qs) from fun j q hj => ((bel_alloc wr _).cell (by rw [add_block]; exact hgw)).trans (HROW.out j q hj))
      have hsz : (wr.alloc (.cells (shpC sh) 65)).heap.size = wr.heap.size + 1 := by simp
      by_cases hp : p = sh.word
      · have hq : ((bys p).toList == (bys sh.word).toList) = true := by rw [hp]; simp
        have HP := Lib.hid hp
        clear hp
        refine region_list (by kernel_rfl) ⟨#[.string s, undef, .pointer (some ⟨w.heap.size, 0, none⟩), u3, .slice (some ⟨w.heap.size + 1, 0, none⟩) (p :: qs).length (p :: qs).length, undef, .pointer (some ⟨wr.heap.size, 0, none⟩), u7, u8, u9, u10, .string s, .slice (some ⟨w.heap.size + 1, 0, none⟩) (p :: qs).length (p :: qs).length, shapesV, .int .i64 k, .bool (decide ((k : Int) < 4)), .agg (shpC sh), .slice (some ⟨w.heap.size + 1, 0, none⟩) (p :: qs).length (p :: qs).length, .pointer (some ⟨w.heap.size + 1, 0, none⟩), .string (bys p), .pointer (some ⟨wr.heap.size, 1, none⟩), .string (bys sh.word), .bool false, u23, u24, u25, u26, u27, u28, u29, u30, u31, u32, u33, u34, u35, u36, u37, u38, u39, u40, u41, u42, u43, u44, u45, u46, u47, u48, u49, u50, u51, u52, u53, u54, u55, u56, u57, undef], []⟩ [.slice (some ⟨w.heap.size + 1, 0, none⟩) (p :: qs).length (p :: qs).length, .pointer (some ⟨w.heap.size + 1, 0, none⟩), .string (bys p), .pointer (some ⟨wr.heap.size, 1, none⟩), .string (bys sh.word), .bool false] [true, true, true, true, true, true] (fun wq => Hid (Blk wq wr.heap.size 65 (shpC sh)) ∧ Hid (Blk wq w.heap.size 39 zeroR.c) ∧ Hid (Below w.heap.size w wq) ∧ Hid (RowAt wq ⟨w.heap.size + 1, 0, none⟩ (p :: qs)) ∧ wq.heap.size = wr.heap.size + 1) (by kernel_rfl) (by kernel_rfl) (by kernel_rfl) ⟨KS.out.drew, K2.out.drew, below_drew H1.out, HROW, by simp⟩ ?_ ?_
        · refine ⟨fun wq hI => ?_, fun wq hI => ?_, fun wq hI => ?_, fun wq hI => ?_, fun wq hI => ?_, fun wq hI => ?_, trivial⟩
          · exact Gives.value (v := .slice (some ⟨w.heap.size + 1, 0, none⟩) (p :: qs).length (p :: qs).length) (w' := wq) (by kernel_rfl) ⟨rfl, hI⟩
          · exact Gives.value (v := .pointer (some ⟨w.heap.size + 1, 0, none⟩)) (w' := wq) (by simp [execOp, Act.eval, go_sem]) ⟨rfl, hI⟩
          · have cJ := hI.2.2.2.1.out 0 p rfl
            rw [show (⟨w.heap.size + 1, 0, none⟩ : Addr).add 0 = ⟨w.heap.size + 1, 0, none⟩ from rfl] at cJ
            exact Gives.value (v := .string (bys p)) (w' := wq) (by simp [execOp, Act.eval, go_sem, cJ]) ⟨rfl, hI⟩
          · exact Gives.value (v := .pointer (some ⟨wr.heap.size, 1, none⟩)) (w' := wq) (by simp [execOp, Act.eval, go_sem]) ⟨rfl, hI⟩
          · have cJ := hI.1.out.cell 1
            exact Gives.value (v := .string (bys sh.word)) (w' := wq) (by simp [execOp, Act.eval, go_sem, cJ]) ⟨rfl, hI⟩
          · exact Gives.value (v := .bool false) (w' := wq) (by simp [execOp, Act.eval, go_sem, hq]) ⟨rfl, hI⟩
        intro wq hI
        obtain ⟨KS, K2, H1, HROW, hsz⟩ := hI
        have HSZ := Lib.hid hsz
        clear hq hsz
        go_upto_region 6 with (fail)
        go_cut [7] (fun v wc => v = .pointer (some ⟨wr.heap.size + 1, 0, none⟩) ∧ Hid (Rest wc (wr.heap.size + 1) (w.heap.size + 1) qs) ∧ Hid (Blk wc wr.heap.size 65 (shpC sh)) ∧ Hid (Blk wc w.heap.size 39 zeroR.c) ∧ Hid (Below w.heap.size w wc) ∧ wc.heap.size = wr.heap.size + 2)
        case first =>
          have hl6 := HL.out
          have e1 : (p :: qs).length = qs.length + 1 := rfl
          rw [e1] at hl6 ⊢
          clear e1
          have HFQ := Lib.hid (show ∀ q ∈ qs, q.length ≤ 1000000 from fun q hq => HF.out q (List.mem_cons_of_mem p hq))
          have hne : wr.heap.size + 1 ≠ w.heap.size + 1 := by omega
          by_cases h1 : qs.length = 0
          · obtain rfl : qs = [] := List.length_eq_zero_iff.1 h1
            clear h1
            go_wp2_with fail
            go_meet
            have N := Lib.hid (Blk.new wq 27 #[.slice (some ⟨w.heap.size + 1, 0, none⟩) 0 0])
            rw [HSZ.out] at N ⊢
            exact ⟨rfl, ⟨⟨⟨w.heap.size + 1, 0, none⟩, N.out, rfl, fun j q hj => by simp at hj⟩, by omega, by simp, by simp⟩, KS.out.alloc _, K2.out.alloc _, H1.out.alloc H1.out.size _, by simp [HSZ.out]⟩
          · have h2 : 0 < qs.length := by omega
            go_wp2_with fail
            go_meet
            have N := Lib.hid (Blk.new wq 27 #[.slice (some ⟨w.heap.size + 1, 1, none⟩) qs.length qs.length])
            rw [HSZ.out] at N ⊢
            refine ⟨rfl, ⟨⟨⟨w.heap.size + 1, 1, none⟩, N.out, rfl, fun j q hj => ?_⟩, by omega, by omega, HFQ.out⟩, KS.out.alloc _, K2.out.alloc _, H1.out.alloc H1.out.size _, by simp [HSZ.out]⟩
            have h3 := HROW.out.tail j q hj
            rw [show (⟨w.heap.size + 1, 0, none⟩ : Addr).add 1 = ⟨w.heap.size + 1, 1, none⟩ from rfl] at h3
            exact ((bel_alloc wq _).cell (by rw [add_block]; have := HSZ.out; show w.heap.size + 1 < wq.heap.size; omega)).trans h3
        case rest =>
          clear KS K2 H1 HROW HSZ
          obtain ⟨rfl, HR, KS, K2, H1, hsz⟩ := hcut
          have HSZ := Lib.hid hsz
          clear hsz
          go_upto_region 9 with (fail)
          have KC := Lib.hid (Blk.new wc 73 #[takeV (wr.heap.size + 1)])
          have HR := Lib.hid (HR.out.keep (bel_alloc wc (.cells #[takeV (wr.heap.size + 1)] 73)))
          have KS := Lib.hid (KS.out.alloc (.cells #[takeV (wr.heap.size + 1)] 73))
          have K2 := Lib.hid (K2.out.alloc (.cells #[takeV (wr.heap.size + 1)] 73))
          have H1 := Lib.hid (H1.out.alloc H1.out.size (.cells #[takeV (wr.heap.size + 1)] 73))
          have HS3 := Lib.hid (show (wc.alloc (.cells #[takeV (wr.heap.size + 1)] 73)).heap.size = wr.heap.size + 3 by simp [HSZ.out])
          rw [HSZ.out] at KC ⊢
          generalize wc.alloc (.cells #[takeV (wr.heap.size + 1)] 73) = wd at *
          have HFQ := Lib.hid HR.out.fits
          have HN3 := Lib.hid (take_len true (take_fits true (take_fits sh.sy HR.out.fits)))
          refine region_stage (by kernel_rfl) ⟨#[.string s, undef, .pointer (some ⟨w.heap.size, 0, none⟩), u3, .slice (some ⟨w.heap.size + 1, 0, none⟩) (p :: qs).length (p :: qs).length, undef, .pointer (some ⟨wr.heap.size, 0, none⟩), .pointer (some ⟨wr.heap.size + 1, 0, none⟩), .pointer (some ⟨wr.heap.size + 2, 0, none⟩), leastV (wr.heap.size + 2), .pointer (some ⟨wr.heap.size + 3, 0, none⟩), .string s, .slice (some ⟨w.heap.size + 1, 0, none⟩) (p :: qs).length (p :: qs).length, shapesV, .int .i64 k, u15, u16, u17, u18, u19, u20, u21, u22, u23, u24, takeV (wr.heap.size + 1), leastV (wr.heap.size + 2), .pointer (some ⟨wr.heap.size, 0, none⟩), .int .i64 sh.kind, takeV (wr.heap.size + 1), .pointer (some ⟨wr.heap.size, 2, none⟩), .bool sh.sy, .string (bys (takeL sh.sy qs).1), takeV (wr.heap.size + 1), .string (bys (takeL true (takeL sh.sy qs).2).1), takeV (wr.heap.size + 1), .string (bys (takeL true (takeL true (takeL sh.sy qs).2).2).1), .int .i64 (numB (takeL true (takeL true (takeL sh.sy qs).2).2).1), .agg #[.int .i64 sh.kind, .string (bys (takeL sh.sy qs).1), .string (bys (takeL true (takeL sh.sy qs).2).1), .int .i64 (numB (takeL true (takeL true (takeL sh.sy qs).2).2).1), .int .i64 0, .int .i64 0], u39, u40, u41, u42, u43, u44, u45, u46, u47, u48, u49, u50, u51, u52, u53, u54, u55, u56, u57, undef], []⟩ [.pointer (some ⟨wr.heap.size, 0, none⟩), .int .i64 sh.kind, takeV (wr.heap.size + 1), .pointer (some ⟨wr.heap.size, 2, none⟩), .bool sh.sy, .string (bys (takeL sh.sy qs).1), takeV (wr.heap.size + 1), .string (bys (takeL true (takeL sh.sy qs).2).1), takeV (wr.heap.size + 1), .string (bys (takeL true (takeL true (takeL sh.sy qs).2).2).1), .int .i64 (numB (takeL true (takeL true (takeL sh.sy qs).2).2).1), .agg #[.int .i64 sh.kind, .string (bys (takeL sh.sy qs).1), .string (bys (takeL true (takeL sh.sy qs).2).1), .int .i64 (numB (takeL true (takeL true (takeL sh.sy qs).2).2).1), .int .i64 0, .int .i64 0], .pointer (some ⟨wr.heap.size + 3, 0, none⟩), undef] [true, true, true, true, true, true, true, true, true, true, true, true, true, true] [5, 7, 9, 12, 13] (InvP sh qs w wr.heap.size) (by kernel_rfl) (by kernel_rfl) (by kernel_rfl) (by kernel_rfl) ⟨HR.out.drew, KS.out.drew, KC.out.drew, K2.out.drew, below_drew H1.out, HS3, (fun h => by cases h)⟩ ?_ ?_
          · refine ⟨fun L wq hL hb ha hI => ?_, fun L wq hL hb ha hI => ?_, fun L wq hL hb ha hI => ?_, fun L wq hL hb ha hI => ?_, fun L wq hL hb ha hI => ?_, fun L wq hL hb ha hI => ?_, fun L wq hL hb ha hI => ?_, fun L wq hL hb ha hI => ?_, fun L wq hL hb ha hI => ?_, fun L wq hL hb ha hI => ?_, fun L wq hL hb ha hI => ?_, fun L wq hL hb ha hI => ?_, fun L wq hL hb ha hI => ?_, fun L wq hL hb ha hI => ?_, trivial⟩
            · exact Gives.value (v := .pointer (some ⟨wr.heap.size, 0, none⟩)) (w' := wq) (by simp [execOp, Act.eval, go_sem]) ⟨rfl, hI⟩
            · have cJ := hI.2.1.out.cell 0
              exact Gives.value (v := .int .i64 sh.kind) (w' := wq) (by simp [execOp, Act.eval, go_sem, cJ]) ⟨rfl, hI⟩
            · have cJ := hI.2.2.1.out.cell 0
              exact Gives.value (v := takeV (wr.heap.size + 1)) (w' := wq) (by simp [execOp, Act.eval, go_sem, cJ]) ⟨rfl, hI⟩
            · exact Gives.value (v := .pointer (some ⟨wr.heap.size, 2, none⟩)) (w' := wq) (by simp [execOp, Act.eval, go_sem]) ⟨rfl, hI⟩
            · have cJ := hI.2.1.out.cell 2
              exact Gives.value (v := .bool sh.sy) (w' := wq) (by simp [execOp, Act.eval, go_sem, cJ]) ⟨rfl, hI⟩
            · have e5 : L 5 = false := hL
              have e7 : L 7 = false := ha 7 (by kernel_rfl)
              have e9 : L 9 = false := ha 9 (by kernel_rfl)
              have e13 : L 13 = false := ha 13 (by kernel_rfl)
              simp only [List.map, e5, e7, e9, e13] at hI
              refine Gives.call (f := 54) (args := #[.bool sh.sy, .pointer (some ⟨wr.heap.size + 1, 0, none⟩)]) (w' := wq) (by kernel_rfl) ((take_any sh.sy (wr.heap.size + 1) (w.heap.size + 1) qs wq hI.1.out).mono ?_)
              rintro e wa ⟨rfl, h1, h2⟩
              refine ⟨_, rfl, rfl, ?_⟩
              have := InvP.step (a' := true) (b' := false) (c' := false) hI h1 h2
              simpa [e7, e9, e13] using this
            · have cJ := hI.2.2.1.out.cell 0
              exact Gives.value (v := takeV (wr.heap.size + 1)) (w' := wq) (by simp [execOp, Act.eval, go_sem, cJ]) ⟨rfl, hI⟩
            · have e5 : L 5 = true := hb 5 (by kernel_rfl)
              have e7 : L 7 = false := hL
              have e9 : L 9 = false := ha 9 (by kernel_rfl)
              have e13 : L 13 = false := ha 13 (by kernel_rfl)
              simp only [List.map, e5, e7, e9, e13] at hI
              refine Gives.call (f := 54) (args := #[.bool true, .pointer (some ⟨wr.heap.size + 1, 0, none⟩)]) (w' := wq) (by kernel_rfl) ((take_any true (wr.heap.size + 1) (w.heap.size + 1) (takeL sh.sy qs).2 wq hI.1.out).mono ?_)
              rintro e wa ⟨rfl, h1, h2⟩
              refine ⟨_, rfl, rfl, ?_⟩
              have := InvP.step (a' := true) (b' := true) (c' := false) hI h1 h2
              simpa [e5, e9, e13] using this
            · have cJ := hI.2.2.1.out.cell 0
              exact Gives.value (v := takeV (wr.heap.size + 1)) (w' := wq) (by simp [execOp, Act.eval, go_sem, cJ]) ⟨rfl, hI⟩
            · have e5 : L 5 = true := hb 5 (by kernel_rfl)
              have e7 : L 7 = true := hb 7 (by kernel_rfl)
              have e9 : L 9 = false := hL
              have e13 : L 13 = false := ha 13 (by kernel_rfl)
              simp only [List.map, e5, e7, e9, e13] at hI
              refine Gives.call (f := 54) (args := #[.bool true, .pointer (some ⟨wr.heap.size + 1, 0, none⟩)]) (w' := wq) (by kernel_rfl) ((take_any true (wr.heap.size + 1) (w.heap.size + 1) (takeL true (takeL sh.sy qs).2).2 wq hI.1.out).mono ?_)
              rintro e wa ⟨rfl, h1, h2⟩
              refine ⟨_, rfl, rfl, ?_⟩
              have := InvP.step (a' := true) (b' := true) (c' := true) hI h1 h2
              simpa [e5, e7, e13] using this
            · refine Gives.call (f := 56) (args := #[.string (bys (takeL true (takeL true (takeL sh.sy qs).2).2).1)]) (w' := wq) (by kernel_rfl) ((number_any _ wq (by have := HN3.out; simp [bys, ByteArray.size]; omega)).mono ?_)
              rintro e wa ⟨rfl, rfl⟩
              exact ⟨_, rfl, by rw [bys_data], hI⟩
            · exact Gives.value (v := .agg #[.int .i64 sh.kind, .string (bys (takeL sh.sy qs).1), .string (bys (takeL true (takeL sh.sy qs).2).1), .int .i64 (numB (takeL true (takeL true (takeL sh.sy qs).2).2).1), .int .i64 0, .int .i64 0]) (w' := wq) (by simp [execOp, Act.eval, go_sem]) ⟨rfl, hI⟩
            · have e12 : L 12 = false := hL
              have e13 : L 13 = false := ha 13 (by kernel_rfl)
              simp only [List.map, e12, e13] at hI
              obtain ⟨i0, i1, i2, i3, i4, i5, i6⟩ := hI
              have hz : wq.heap.size = wr.heap.size + 3 := i5.out
              have HZ := Lib.hid hz
              refine Gives.value (v := .pointer (some ⟨wr.heap.size + 3, 0, none⟩)) (w' := wq.alloc (.cells zeroR.c 39)) (by simp [execOp, go_sem, hz]) ⟨rfl, ?_⟩
              have N := Blk.new wq 39 zeroR.c
              rw [HZ.out] at N
              simp only [List.map, e13]
              exact ⟨i0.out.keep (bel_alloc _ _), i1.out.alloc _, i2.out.alloc _, i3.out.alloc _, i4.out.alloc i4.out.size _, (by show _ = _; simp [HZ.out]), fun _ => N⟩
            · have e5 : L 5 = true := hb 5 (by kernel_rfl)
              have e7 : L 7 = true := hb 7 (by kernel_rfl)
              have e9 : L 9 = true := hb 9 (by kernel_rfl)
              have e12 : L 12 = true := hb 12 (by kernel_rfl)
              have e13 : L 13 = false := hL
              simp only [List.map, e5, e7, e9, e12, e13] at hI
              obtain ⟨i0, i1, i2, i3, i4, i5, i6⟩ := hI
              have i6 := i6 rfl
              have c0 := i6.out.cell 0
              have c1 := i6.out.cell 1
              have c2 := i6.out.cell 2
              have c3 := i6.out.cell 3
              have c4 := i6.out.cell 4
              have c5 := i6.out.cell 5
              have fK := fun i => i6.out.frozen i
              have lK := i6.out.lt
              have hgw2 := i0.out.lt
              refine Gives.skip (w' := (((((wq.setCell ⟨wr.heap.size + 3, 0, none⟩ (.int .i64 sh.kind)).setCell ⟨wr.heap.size + 3, 1, none⟩ (.string (bys (takeL sh.sy qs).1))).setCell ⟨wr.heap.size + 3, 2, none⟩ (.string (bys (takeL true (takeL sh.sy qs).2).1))).setCell ⟨wr.heap.size + 3, 3, none⟩ (.int .i64 (numB (takeL true (takeL true (takeL sh.sy qs).2).2).1))).setCell ⟨wr.heap.size + 3, 4, none⟩ (.int .i64 0)).setCell ⟨wr.heap.size + 3, 5, none⟩ (.int .i64 0)) (by simp [execOp, Act.eval, go_sem, c0, c1, c2, c3, c4, c5, fK]) ⟨rfl, ?_⟩
              have O := only6 wq (wr.heap.size + 3) (.int .i64 sh.kind) (.string (bys (takeL sh.sy qs).1)) (.string (bys (takeL true (takeL sh.sy qs).2).1)) (.int .i64 (numB (takeL true (takeL true (takeL sh.sy qs).2).2).1)) (.int .i64 0) (.int .i64 0)
              have N := blk6 (.int .i64 sh.kind) (.string (bys (takeL sh.sy qs).1)) (.string (bys (takeL true (takeL sh.sy qs).2).1)) (.int .i64 (numB (takeL true (takeL true (takeL sh.sy qs).2).2).1)) (.int .i64 0) (.int .i64 0) i6.out
              simp only [List.map, e5, e7, e9, e12]
              have h3 := i3.out.lt
              exact ⟨i0.out.far O (by omega) (by omega), O.blk (by omega) i1.out, O.blk (by omega) i2.out, O.blk (by omega) i3.out, O.below i4.out (by omega), O.size.trans i5.out, fun _ => N⟩
          · intro wq hI
            obtain ⟨HR0, KS, KC, K2, H1, HS4, KR0⟩ := hI
            have KR := Lib.hid (show Blk wq (wr.heap.size + 3) 39 #[.int .i64 sh.kind, .string (bys (takeL sh.sy qs).1), .string (bys (takeL true (takeL sh.sy qs).2).1), .int .i64 (numB (takeL true (takeL true (takeL sh.sy qs).2).2).1), .int .i64 0, .int .i64 0] from (KR0 rfl).out)
            have HR := Lib.hid (show Rest wq (wr.heap.size + 1) (w.heap.size + 1) (takeL true (takeL true (takeL sh.sy qs).2).2).2 from HR0.out)
            clear HR0 KR0
            have hgw := HR.out.lt
            have hl2 := K2.out.lt
            have cS := KS.out.cell 3
            go_wp2_with fail
            refine (least_any sh.le (wr.heap.size + 2) (wr.heap.size + 1) (w.heap.size + 1) (takeL true (takeL true (takeL sh.sy qs).2).2).2 wq HR.out KC.out).mono ?_
            rintro e w5 ⟨rfl, h1, h2⟩
            have HR := Lib.hid h1
            have KS := Lib.hid (h2.blk (by omega) KS.out)
            have KC := Lib.hid (h2.blk (by omega) KC.out)
            have K2 := Lib.hid (h2.blk (by omega) K2.out)
            have KR := Lib.hid (h2.blk (by omega) KR.out)
            have H1 := Lib.hid (h2.below H1.out (by omega))
            clear h1 h2 cS
            generalize hLE : (if sh.le then numB (takeL sh.le (takeL true (takeL true (takeL sh.sy qs).2).2).2).1 else 0) = left
            have HLE := Lib.hid hLE
            clear hLE
            have c4 := KR.out.cell 4
            have f4 := KR.out.frozen 4
            have lR := KR.out.lt
            have O4 := Lib.hid (Only.set (wr.heap.size + 3) 4 w5 (.int .i64 left))
            have HR := Lib.hid (HR.out.far O4.out (by omega) (by omega))
            have KS := Lib.hid (O4.out.blk (by omega) KS.out)
            have KC := Lib.hid (O4.out.blk (by omega) KC.out)
            have K2 := Lib.hid (O4.out.blk (by omega) K2.out)
            have KR := Lib.hid (KR.out.set_ 4 (.int .i64 left))
            have H1 := Lib.hid (O4.out.below H1.out (by omega))
            have cS := KS.out.cell 4
            go_wp2_with fail
            refine (least_any sh.ri (wr.heap.size + 2) (wr.heap.size + 1) (w.heap.size + 1) (takeL sh.le (takeL true (takeL true (takeL sh.sy qs).2).2).2).2 _ HR.out KC.out).mono ?_
            rintro e w6 ⟨rfl, h1, h2⟩
            have HR := Lib.hid h1
            have K2 := Lib.hid (h2.blk (by omega) K2.out)
            have KR := Lib.hid (h2.blk (by omega) KR.out)
            have H1 := Lib.hid (h2.below H1.out (by omega))
            clear h1 h2 cS c4 f4 lR O4 KS KC
            generalize hRI : (if sh.ri then numB (takeL sh.ri (takeL sh.le (takeL true (takeL true (takeL sh.sy qs).2).2).2).2).1 else 0) = right
            have HRI := Lib.hid hRI
            clear hRI
            have c5 := KR.out.cell 5
            have f5 := KR.out.frozen 5
            have lR := KR.out.lt
            have O5 := Lib.hid (Only.set (wr.heap.size + 3) 5 w6 (.int .i64 right))
            have HR := Lib.hid (HR.out.far O5.out (by omega) (by omega))
            have K2 := Lib.hid (O5.out.blk (by omega) K2.out)
            have KR := Lib.hid (KR.out.set_ 5 (.int .i64 right))
            have H1 := Lib.hid (O5.out.below H1.out (by omega))
            go_upto_region 12 with (fail)
            clear c5 f5 lR O5
            generalize w6.setCell ⟨wr.heap.size + 3, 5, none⟩ (.int .i64 right) = w7 at *
            obtain ⟨rr, hrr⟩ : ∃ rr : Rul, rr = ⟨sh.kind, (bys (takeL sh.sy qs).1), (bys (takeL true (takeL sh.sy qs).2).1), (numB (takeL true (takeL true (takeL sh.sy qs).2).2).1), left, right⟩ := ⟨_, rfl⟩
            have HRR := Lib.hid (show (rulS sh qs).1 = rr by rw [hrr, ← HRI.out, ← HLE.out]; rfl)
            have KR := Lib.hid (show Blk w7 (wr.heap.size + 3) 39 rr.c by have := KR.out; rw [hrr]; simpa using this)
            have HFIT := Lib.hid (show rr.fits by rw [hrr]; exact ⟨by have := take_len sh.sy HFQ.out; simp [bys, ByteArray.size]; omega, by have := take_len true (take_fits sh.sy HFQ.out); simp [bys, ByteArray.size]; omega⟩)
            have HPW := Lib.hid (show parseW (p :: qs) = readS sh qs by rw [HP.out, ← HSH.out]; exact parseW_at qs hlt)
            clear hrr
            obtain ⟨⟨ad, KL, had, hrow⟩, _, hlen, _⟩ := HR.out
            have KL := Lib.hid KL
            generalize hN : (takeL sh.ri (takeL sh.le (takeL true (takeL true (takeL sh.sy qs).2).2).2).2).2.length = n at *
            have HN := Lib.hid hN
            clear hN hrow had
            by_cases h0 : n = 0
            · have hq : ((n : Int) == 0) = true := by rw [h0]; rfl
              have HOK := Lib.hid (show (readS sh qs) = (rr, ownB rr) by
                unfold readS
                rw [HRR.out, show (rulS sh qs).2.isEmpty = true by rw [List.isEmpty_iff]; exact List.length_eq_zero_iff.1 (HN.out.trans h0)]
                rfl)
              clear h0
              refine region_stage (by kernel_rfl) ⟨#[.string s, undef, .pointer (some ⟨w.heap.size, 0, none⟩), .bool (ownB rr), .slice (some ⟨w.heap.size + 1, 0, none⟩) (qs.length + 1) (qs.length + 1), undef, .pointer (some ⟨wr.heap.size, 0, none⟩), .pointer (some ⟨wr.heap.size + 1, 0, none⟩), .pointer (some ⟨wr.heap.size + 2, 0, none⟩), leastV (wr.heap.size + 2), .pointer (some ⟨wr.heap.size + 3, 0, none⟩), .string s, .slice (some ⟨w.heap.size + 1, 0, none⟩) (qs.length + 1) (qs.length + 1), shapesV, .int .i64 k, u15, u16, u17, u18, u19, u20, u21, u22, u23, u24, takeV (wr.heap.size + 1), leastV (wr.heap.size + 2), .pointer (some ⟨wr.heap.size, 0, none⟩), .int .i64 sh.kind, takeV (wr.heap.size + 1), .pointer (some ⟨wr.heap.size, 2, none⟩), .bool sh.sy, .string (bys (takeL sh.sy qs).1), takeV (wr.heap.size + 1), .string (bys (takeL true (takeL sh.sy qs).2).1), takeV (wr.heap.size + 1), .string (bys (takeL true (takeL true (takeL sh.sy qs).2).2).1), .int .i64 (numB (takeL true (takeL true (takeL sh.sy qs).2).2).1), .agg #[.int .i64 sh.kind, .string (bys (takeL sh.sy qs).1), .string (bys (takeL true (takeL sh.sy qs).2).1), .int .i64 (numB (takeL true (takeL true (takeL sh.sy qs).2).2).1), .int .i64 0, .int .i64 0], leastV (wr.heap.size + 2), .pointer (some ⟨wr.heap.size, 3, none⟩), .bool sh.le, .int .i64 left, .pointer (some ⟨wr.heap.size + 3, 4, none⟩), leastV (wr.heap.size + 2), .pointer (some ⟨wr.heap.size, 4, none⟩), .bool sh.ri, .int .i64 right, .pointer (some ⟨wr.heap.size + 3, 5, none⟩), rr.v, .slice (some ad) n n, .int .i64 n, .bool true, .bool true, rr.v, .bool (ownB rr), .bool (ownB rr), u57, undef], []⟩ [rr.v, .slice (some ad) n n, .int .i64 n, .bool true, .bool true, rr.v, .bool (ownB rr), .bool (ownB rr), undef, .bool (ownB rr)] [true, true, true, true, true, true, true, true, true, true] [8] (InvQ rr ad n w wr.heap.size) (by kernel_rfl) (by kernel_rfl) (by kernel_rfl) (by kernel_rfl) ⟨KR.out.drew, KL.out.drew, K2.out.drew, below_drew H1.out, hgw⟩ ?_ ?_
              · refine ⟨fun L wq hL hb ha hI => ?_, fun L wq hL hb ha hI => ?_, fun L wq hL hb ha hI => ?_, fun L wq hL hb ha hI => ?_, fun L wq hL hb ha hI => ?_, fun L wq hL hb ha hI => ?_, fun L wq hL hb ha hI => ?_, fun L wq hL hb ha hI => ?_, fun L wq hL hb ha hI => ?_, fun L wq hL hb ha hI => ?_, trivial⟩
                · have cJ := fun i => hI.1.out.cell i
                  exact Gives.value (v := rr.v) (w' := wq) (by simp [execOp, Act.eval, go_sem, cJ]) ⟨rfl, hI⟩
                · have cJ := hI.2.1.out.cell 0
                  exact Gives.value (v := .slice (some ad) n n) (w' := wq) (by simp [execOp, Act.eval, go_sem, cJ]) ⟨rfl, hI⟩
                · exact Gives.value (v := .int .i64 n) (w' := wq) (by simp [Act.eval, go_sem]) ⟨rfl, hI⟩
                · exact Gives.value (v := .bool true) (w' := wq) (by simp [execOp, Act.eval, go_sem, hq]) ⟨rfl, hI⟩
                · exact Gives.value (v := .bool true) (w' := wq) (by kernel_rfl) ⟨rfl, hI⟩
                · have cJ := fun i => hI.1.out.cell i
                  exact Gives.value (v := rr.v) (w' := wq) (by simp [execOp, Act.eval, go_sem, cJ]) ⟨rfl, hI⟩
                · refine Gives.call (f := 31) (args := #[rr.v]) (w' := wq) (by kernel_rfl) ((own_any rr wq HFIT.out).mono ?_)
                  rintro e wa ⟨rfl, hb5⟩
                  exact ⟨_, rfl, rfl, keep hb5 hI.1.out, keep hb5 hI.2.1.out, keep hb5 hI.2.2.1.out, hI.2.2.2.1.out.trans (hb5.mono hI.2.2.2.1.out.size), hI.2.2.2.2⟩
                · exact Gives.value (v := .bool (ownB rr)) (w' := wq) (by simp [Act.eval, go_sem]) ⟨rfl, hI⟩
                · have e8 : L 8 = false := hL
                  simp only [List.map, e8] at hI
                  obtain ⟨i0, i1, i2, i3, i4⟩ := hI
                  have c0 := i2.out.cell 0
                  have c1 := i2.out.cell 1
                  have c2 := i2.out.cell 2
                  have c3 := i2.out.cell 3
                  have c4 := i2.out.cell 4
                  have c5 := i2.out.cell 5
                  have fK := fun i => i2.out.frozen i
                  refine Gives.skip (w' := (((((wq.setCell ⟨w.heap.size, 0, none⟩ (.int .i64 rr.kind)).setCell ⟨w.heap.size, 1, none⟩ (.string rr.sym)).setCell ⟨w.heap.size, 2, none⟩ (.string rr.nam)).setCell ⟨w.heap.size, 3, none⟩ (.int .i64 rr.prec)).setCell ⟨w.heap.size, 4, none⟩ (.int .i64 rr.left)).setCell ⟨w.heap.size, 5, none⟩ (.int .i64 rr.right)) (by simp [execOp, Act.eval, go_sem, c0, c1, c2, c3, c4, c5, fK]) ⟨rfl, ?_⟩
                  have O := only6 wq w.heap.size (.int .i64 rr.kind) (.string rr.sym) (.string rr.nam) (.int .i64 rr.prec) (.int .i64 rr.left) (.int .i64 rr.right)
                  have N := blk6 (.int .i64 rr.kind) (.string rr.sym) (.string rr.nam) (.int .i64 rr.prec) (.int .i64 rr.left) (.int .i64 rr.right) i2.out
                  exact ⟨O.blk (by omega) i0.out, O.blk (by omega) i1.out, N, O.below i3.out (Nat.le_refl _), i4⟩
                · exact Gives.value (v := .bool (ownB rr)) (w' := wq) (by kernel_rfl) ⟨rfl, hI⟩
              · intro wq hI
                obtain ⟨i0, i1, i2, i3, i4⟩ := hI
                have K2 := Lib.hid (show Blk wq w.heap.size 39 rr.c from i2.out)
                clear i0 i1 i2
                go_wp2_with fail
                have c := fun i => K2.out.cell i
                exact bodyPost_ret (v := .tuple #[rr.v, .bool (ownB rr)]) (by simp [results, Tryd.results35, go_sem, c]) rfl ⟨by rw [HWS.out, HPW.out, HOK.out], i3.out⟩
            · have hq : ((n : Int) == 0) = false := by rw [beq_eq_false_iff_ne]; omega
              have HOK := Lib.hid (show (readS sh qs) = (rr, false) by
                unfold readS
                have he : (rulS sh qs).2.isEmpty = false := by
                  cases hz : (rulS sh qs).2.isEmpty with
                  | false => rfl
                  | true =>
                    rw [List.isEmpty_iff] at hz
                    exact absurd (HN.out.symm.trans (show (rulS sh qs).2.length = 0 by rw [hz]; rfl)) h0
                rw [HRR.out, he]
                rfl)
              clear h0
              refine region_stage (by kernel_rfl) ⟨#[.string s, undef, .pointer (some ⟨w.heap.size, 0, none⟩), .bool false, .slice (some ⟨w.heap.size + 1, 0, none⟩) (qs.length + 1) (qs.length + 1), undef, .pointer (some ⟨wr.heap.size, 0, none⟩), .pointer (some ⟨wr.heap.size + 1, 0, none⟩), .pointer (some ⟨wr.heap.size + 2, 0, none⟩), leastV (wr.heap.size + 2), .pointer (some ⟨wr.heap.size + 3, 0, none⟩), .string s, .slice (some ⟨w.heap.size + 1, 0, none⟩) (qs.length + 1) (qs.length + 1), shapesV, .int .i64 k, u15, u16, u17, u18, u19, u20, u21, u22, u23, u24, takeV (wr.heap.size + 1), leastV (wr.heap.size + 2), .pointer (some ⟨wr.heap.size, 0, none⟩), .int .i64 sh.kind, takeV (wr.heap.size + 1), .pointer (some ⟨wr.heap.size, 2, none⟩), .bool sh.sy, .string (bys (takeL sh.sy qs).1), takeV (wr.heap.size + 1), .string (bys (takeL true (takeL sh.sy qs).2).1), takeV (wr.heap.size + 1), .string (bys (takeL true (takeL true (takeL sh.sy qs).2).2).1), .int .i64 (numB (takeL true (takeL true (takeL sh.sy qs).2).2).1), .agg #[.int .i64 sh.kind, .string (bys (takeL sh.sy qs).1), .string (bys (takeL true (takeL sh.sy qs).2).1), .int .i64 (numB (takeL true (takeL true (takeL sh.sy qs).2).2).1), .int .i64 0, .int .i64 0], leastV (wr.heap.size + 2), .pointer (some ⟨wr.heap.size, 3, none⟩), .bool sh.le, .int .i64 left, .pointer (some ⟨wr.heap.size + 3, 4, none⟩), leastV (wr.heap.size + 2), .pointer (some ⟨wr.heap.size, 4, none⟩), .bool sh.ri, .int .i64 right, .pointer (some ⟨wr.heap.size + 3, 5, none⟩), rr.v, .slice (some ad) n n, .int .i64 n, .bool false, .bool false, undef, undef, .bool false, u57, undef], []⟩ [rr.v, .slice (some ad) n n, .int .i64 n, .bool false, .bool false, undef, undef, .bool false, undef, .bool false] [true, true, true, true, true, false, false, true, true, true] [8] (InvQ rr ad n w wr.heap.size) (by kernel_rfl) (by kernel_rfl) (by kernel_rfl) (by kernel_rfl) ⟨KR.out.drew, KL.out.drew, K2.out.drew, below_drew H1.out, hgw⟩ ?_ ?_
              · refine ⟨fun L wq hL hb ha hI => ?_, fun L wq hL hb ha hI => ?_, fun L wq hL hb ha hI => ?_, fun L wq hL hb ha hI => ?_, fun L wq hL hb ha hI => ?_, ⟨rfl, fun L wq hI => hI⟩, ⟨rfl, fun L wq hI => hI⟩, fun L wq hL hb ha hI => ?_, fun L wq hL hb ha hI => ?_, fun L wq hL hb ha hI => ?_, trivial⟩
                · have cJ := fun i => hI.1.out.cell i
                  exact Gives.value (v := rr.v) (w' := wq) (by simp [execOp, Act.eval, go_sem, cJ]) ⟨rfl, hI⟩
                · have cJ := hI.2.1.out.cell 0
                  exact Gives.value (v := .slice (some ad) n n) (w' := wq) (by simp [execOp, Act.eval, go_sem, cJ]) ⟨rfl, hI⟩
                · exact Gives.value (v := .int .i64 n) (w' := wq) (by simp [Act.eval, go_sem]) ⟨rfl, hI⟩
                · exact Gives.value (v := .bool false) (w' := wq) (by simp [execOp, Act.eval, go_sem, hq]) ⟨rfl, hI⟩
                · exact Gives.value (v := .bool false) (w' := wq) (by kernel_rfl) ⟨rfl, hI⟩
                · exact Gives.value (v := .bool false) (w' := wq) (by simp [Act.eval, go_sem]) ⟨rfl, hI⟩
                · have e8 : L 8 = false := hL
                  simp only [List.map, e8] at hI
                  obtain ⟨i0, i1, i2, i3, i4⟩ := hI
                  have c0 := i2.out.cell 0
                  have c1 := i2.out.cell 1
                  have c2 := i2.out.cell 2
                  have c3 := i2.out.cell 3
                  have c4 := i2.out.cell 4
                  have c5 := i2.out.cell 5
                  have fK := fun i => i2.out.frozen i
                  refine Gives.skip (w' := (((((wq.setCell ⟨w.heap.size, 0, none⟩ (.int .i64 rr.kind)).setCell ⟨w.heap.size, 1, none⟩ (.string rr.sym)).setCell ⟨w.heap.size, 2, none⟩ (.string rr.nam)).setCell ⟨w.heap.size, 3, none⟩ (.int .i64 rr.prec)).setCell ⟨w.heap.size, 4, none⟩ (.int .i64 rr.left)).setCell ⟨w.heap.size, 5, none⟩ (.int .i64 rr.right)) (by simp [execOp, Act.eval, go_sem, c0, c1, c2, c3, c4, c5, fK]) ⟨rfl, ?_⟩
                  have O := only6 wq w.heap.size (.int .i64 rr.kind) (.string rr.sym) (.string rr.nam) (.int .i64 rr.prec) (.int .i64 rr.left) (.int .i64 rr.right)
                  have N := blk6 (.int .i64 rr.kind) (.string rr.sym) (.string rr.nam) (.int .i64 rr.prec) (.int .i64 rr.left) (.int .i64 rr.right) i2.out
                  exact ⟨O.blk (by omega) i0.out, O.blk (by omega) i1.out, N, O.below i3.out (Nat.le_refl _), i4⟩
                · exact Gives.value (v := .bool false) (w' := wq) (by kernel_rfl) ⟨rfl, hI⟩
              · intro wq hI
                obtain ⟨i0, i1, i2, i3, i4⟩ := hI
                have K2 := Lib.hid (show Blk wq w.heap.size 39 rr.c from i2.out)
                clear i0 i1 i2
                go_wp2_with fail
                have c := fun i => K2.out.cell i
                exact bodyPost_ret (v := .tuple #[rr.v, .bool false]) (by simp [results, Tryd.results35, go_sem, c]) rfl ⟨by rw [HWS.out, HPW.out, HOK.out], i3.out⟩
      · have hq : ((bys p).toList == (bys sh.word).toList) = false := by
          rw [beq_eq_false_iff_ne]; intro e; apply hp
          simpa [ByteArray.toList_eq, bys] using e
        have HP := Lib.hid hp
        clear hp
        refine region_list (by kernel_rfl) ⟨#[.string s, undef, .pointer (some ⟨w.heap.size, 0, none⟩), u3, .slice (some ⟨w.heap.size + 1, 0, none⟩) (p :: qs).length (p :: qs).length, undef, .pointer (some ⟨wr.heap.size, 0, none⟩), u7, u8, u9, u10, .string s, .slice (some ⟨w.heap.size + 1, 0, none⟩) (p :: qs).length (p :: qs).length, shapesV, .int .i64 k, .bool (decide ((k : Int) < 4)), .agg (shpC sh), .slice (some ⟨w.heap.size + 1, 0, none⟩) (p :: qs).length (p :: qs).length, .pointer (some ⟨w.heap.size + 1, 0, none⟩), .string (bys p), .pointer (some ⟨wr.heap.size, 1, none⟩), .string (bys sh.word), .bool true, u23, u24, u25, u26, u27, u28, u29, u30, u31, u32, u33, u34, u35, u36, u37, u38, u39, u40, u41, u42, u43, u44, u45, u46, u47, u48, u49, u50, u51, u52, u53, u54, u55, u56, u57, undef], []⟩ [.slice (some ⟨w.heap.size + 1, 0, none⟩) (p :: qs).length (p :: qs).length, .pointer (some ⟨w.heap.size + 1, 0, none⟩), .string (bys p), .pointer (some ⟨wr.heap.size, 1, none⟩), .string (bys sh.word), .bool true] [true, true, true, true, true, true] (fun wq => Hid (Blk wq wr.heap.size 65 (shpC sh)) ∧ Hid (Blk wq w.heap.size 39 zeroR.c) ∧ Hid (Below w.heap.size w wq) ∧ Hid (RowAt wq ⟨w.heap.size + 1, 0, none⟩ (p :: qs)) ∧ wq.heap.size = wr.heap.size + 1) (by kernel_rfl) (by kernel_rfl) (by kernel_rfl) ⟨KS.out.drew, K2.out.drew, below_drew H1.out, HROW, by simp⟩ ?_ ?_
        · refine ⟨fun wq hI => ?_, fun wq hI => ?_, fun wq hI => ?_, fun wq hI => ?_, fun wq hI => ?_, fun wq hI => ?_, trivial⟩
          · exact Gives.value (v := .slice (some ⟨w.heap.size + 1, 0, none⟩) (p :: qs).length (p :: qs).length) (w' := wq) (by kernel_rfl) ⟨rfl, hI⟩
          · exact Gives.value (v := .pointer (some ⟨w.heap.size + 1, 0, none⟩)) (w' := wq) (by simp [execOp, Act.eval, go_sem]) ⟨rfl, hI⟩
          · have cJ := hI.2.2.2.1.out 0 p rfl
            rw [show (⟨w.heap.size + 1, 0, none⟩ : Addr).add 0 = ⟨w.heap.size + 1, 0, none⟩ from rfl] at cJ
            exact Gives.value (v := .string (bys p)) (w' := wq) (by simp [execOp, Act.eval, go_sem, cJ]) ⟨rfl, hI⟩
          · exact Gives.value (v := .pointer (some ⟨wr.heap.size, 1, none⟩)) (w' := wq) (by simp [execOp, Act.eval, go_sem]) ⟨rfl, hI⟩
          · have cJ := hI.1.out.cell 1
            exact Gives.value (v := .string (bys sh.word)) (w' := wq) (by simp [execOp, Act.eval, go_sem, cJ]) ⟨rfl, hI⟩
          · exact Gives.value (v := .bool true) (w' := wq) (by simp [execOp, Act.eval, go_sem, hq]) ⟨rfl, hI⟩
        intro wq hI
        obtain ⟨KS, K2, H1, HROW, hsz⟩ := hI
        clear hq
        go_wp2_with fail
        go_roundw
        case rel => exact ⟨k + 1, by omega, by go_num, (fun j hj => by
          rcases Nat.lt_or_ge j k with h' | h'
          · exact HJ.out j h'
          · obtain rfl : j = k := by omega
            rw [HSH.out]; exact HP.out), K2, H1, HROW, by omega⟩
        case measure => simp [intOf]; omega
    · obtain rfl : k = 4 := by omega
      have HPW := Lib.hid (show parseW ws = (zeroR, false) by
        unfold parseW
        rw [if_neg (show ¬ ws.headD [] = sh1.word from HJ.out 0 (by omega)), if_neg (show ¬ ws.headD [] = sh2.word from HJ.out 1 (by omega)), if_neg (show ¬ ws.headD [] = sh3.word from HJ.out 2 (by omega)), if_neg (show ¬ ws.headD [] = sh4.word from HJ.out 3 (by omega))])
      have c0 := K2.out.cell 0
      have c1 := K2.out.cell 1
      have c2 := K2.out.cell 2
      have c3 := K2.out.cell 3
      have c4 := K2.out.cell 4
      have c5 := K2.out.cell 5
      have fK := fun i => K2.out.frozen i
      have lK := K2.out.lt
      go_wp2_with fail
      have N := Lib.hid (blk6 (.int .i64 0) (.string ⟨#[]⟩) (.string ⟨#[]⟩) (.int .i64 0) (.int .i64 0) (.int .i64 0) K2.out)
      have NB := Lib.hid ((only6 wr w.heap.size (.int .i64 0) (.string ⟨#[]⟩) (.string ⟨#[]⟩) (.int .i64 0) (.int .i64 0) (.int .i64 0)).below H1.out (Nat.le_refl _))
      clear c0 c1 c2 c3 c4 c5 fK lK
      generalize ((((((wr.setCell ⟨w.heap.size, 0, none⟩ (.int .i64 0)).setCell ⟨w.heap.size, 1, none⟩ (.string ⟨#[]⟩)).setCell ⟨w.heap.size, 2, none⟩ (.string ⟨#[]⟩)).setCell ⟨w.heap.size, 3, none⟩ (.int .i64 0)).setCell ⟨w.heap.size, 4, none⟩ (.int .i64 0)).setCell ⟨w.heap.size, 5, none⟩ (.int .i64 0)) = wz at *
      have c := fun i => N.out.cell i
      exact bodyPost_ret (v := .tuple #[zeroR.v, .bool false]) (by simp [results, Tryd.results35, go_sem, c]) rfl ⟨by rw [HWS.out, HPW.out], NB.out⟩
end Go.Proofs.YtgkfmeagpmjcoaaDoor
