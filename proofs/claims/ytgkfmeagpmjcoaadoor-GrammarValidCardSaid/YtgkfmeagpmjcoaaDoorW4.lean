/- Parse of the program: the rules of a text, or a line and an error. -/
import Derived.Test.YtgkfmeagpmjcoaaDoorW3
namespace Go.Proofs.YtgkfmeagpmjcoaaDoor
open Go.RowKit
theorem bys_size (l : List UInt8) : (bys l).size = l.length := by simp [bys, ByteArray.size]
theorem own_fits {r : Rul} (h : ownB r = true) : r.fits := by
  have ho := ownR_of h
  have h1 : r.sym.size = r.sym.data.toList.length := by simp
  have h2 : r.nam.size = r.nam.data.toList.length := by simp
  exact ⟨by have := ho.sym; omega, by have := ho.nam; omega⟩
def cellsR (rs : List Rul) : List Value := rs.flatMap fun r => r.c.toList
theorem cellsR_snoc (rs : List Rul) (r : Rul) : cellsR (rs ++ [r]) = cellsR rs ++ r.c.toList := by simp [cellsR]
theorem cellsR_at : ∀ (rs : List Rul) (k j : Nat) (r : Rul) (v : Value), rs[k]? = some r → r.c[j]? = some v → (cellsR rs)[k * 6 + j]? = some v
  | [], k, j, r, v, h, _ => by simp at h
  | x :: rs, 0, j, r, v, h, hv => by
    simp at h
    subst h
    have hj : j < 6 := (Array.getElem?_eq_some_iff.1 hv).1
    rw [show cellsR (x :: rs) = x.c.toList ++ cellsR rs from by simp [cellsR], List.getElem?_append_left (by simp; omega)]
    simpa using hv
  | x :: rs, k + 1, j, r, v, h, hv => by
    rw [show cellsR (x :: rs) = x.c.toList ++ cellsR rs from by simp [cellsR], List.getElem?_append_right (by simp; omega)]
    have := cellsR_at rs k j r v (by simpa using h) hv
    rw [← this]
    congr 1
    simp
    omega
/-- rules that a call has made -/
def OwnRuls (w : World) (B : Nat) (v : Value) (rs : List Rul) : Prop := w.ownsRow B 39 6 v rs.length (cellsR rs) ∧ ∀ r ∈ rs, r.fits
theorem OwnRuls.keep {w w' : World} {B : Nat} {v : Value} {rs : List Rul} (h : OwnRuls w B v rs) (hb : Below w.heap.size w w') : OwnRuls w' B v rs := ⟨own_below h.1 hb, h.2⟩
theorem OwnRuls.drew {w : World} {B : Nat} {v : Value} {rs : List Rul} (h : OwnRuls w B v rs) : OwnRuls w.drew B v rs := h
theorem OwnRuls.form {w : World} {B : Nat} {v : Value} {rs : List Rul} (h : OwnRuls w B v rs) : ∃ A cap, v = .slice A rs.length cap ∧ rs.length ≤ cap ∧ cap ≤ 9223372036854775807 ∧ RulsAt w A rs := by
  obtain ⟨⟨h1, h2⟩, hf⟩ := h
  rcases h2 with ⟨rfl, h0⟩ | ⟨g, cap, cur, rfl, hg, hb, hn, hc, hs, ht⟩
  · obtain rfl : rs = [] := List.length_eq_zero_iff.1 h0
    exact ⟨none, 0, rfl, by simp, by omega, fun k r hk => by simp at hk⟩
  · refine ⟨some ⟨g, 0, none⟩, cap, rfl, hn, by unfold maxLen at hc; omega, fun k r hk => ⟨hf r (List.mem_of_getElem? hk), _, rfl, ?_, fun j v hj => ?_⟩⟩
    · rcases Nat.lt_or_ge g w.heap.size with hlt | hge
      · exact hlt
      · rw [Array.getElem?_eq_none hge] at hb; cases hb
    · have h3 := cellsR_at rs k j r v hk hj
      have hb' : Blk w g 39 cur := hb
      rw [show (⟨g, 0, none⟩ : Addr).add (k * 6 + j) = ⟨g, k * 6 + j, none⟩ by unfold Addr.add; simp; omega, hb'.cell]
      rw [← ht, List.getElem?_take] at h3
      split at h3
      · simpa using h3
      · cases h3
theorem info_rul : (Tryd.prog.info? 39).map (fun i => (i.zero, i.size, i.bytes)) = some (some zeroR.v, 6, 64) := by kernel_rfl
theorem cells_new (w : World) (cs : List Value) (t : TypeId) : ∀ j u, cs[j]? = some u → (w.alloc (.cells cs.toArray t)).cell? ((⟨w.heap.size, 0, none⟩ : Addr).add j) = some u := by
  intro j u hj
  rw [show (⟨w.heap.size, 0, none⟩ : Addr).add j = ⟨w.heap.size, j, none⟩ by unfold Addr.add; simp; omega, Blk.cell (Blk.new w t _)]
  simpa using hj
def strLen : Value → Nat
  | .string b => b.size
  | _ => 0
/-- what Parse leaves -/
def ParseP (t : List Rul × Int × Int) (w : World) (e : Ending) (w' : World) : Prop := ∃ v, e = .returned (.tuple #[v, .int .i64 t.2.1, .int .i64 t.2.2]) ∧ OwnRuls w' w.heap.size v t.1 ∧ Below w.heap.size w w'
theorem parseP_bad {s : List UInt8} {n : Nat} {w w' : World} (h : rd (splitL 10 s) 0 [] = .bad n) (hb : Below w.heap.size w w') : ParseP (parseAll s) w (.returned (.tuple #[.slice none 0 0, .int .i64 n, .int .i64 3])) w' := by
  unfold parseAll
  rw [h]
  exact ⟨_, rfl, ⟨World.ownsRow_nil _ _ _ _, by simp⟩, hb⟩
theorem parseP_err {s : List UInt8} {rs : List Rul} {n : Nat} {x : Int} {w w' : World} (h : rd (splitL 10 s) 0 [] = .good rs) (h2 : scan rs rs.length = some (n, x)) (hb : Below w.heap.size w w') : ParseP (parseAll s) w (.returned (.tuple #[.slice none 0 0, .int .i64 n, .int .i64 x])) w' := by
  unfold parseAll
  rw [h]
  simp only [h2]
  exact ⟨_, rfl, ⟨World.ownsRow_nil _ _ _ _, by simp⟩, hb⟩
theorem parseP_ok {s : List UInt8} {rs : List Rul} {v : Value} {w w' : World} (h : rd (splitL 10 s) 0 [] = .good rs) (h2 : scan rs rs.length = none) (ho : OwnRuls w' w.heap.size v rs) (hb : Below w.heap.size w w') : ParseP (parseAll s) w (.returned (.tuple #[v, .int .i64 0, .int .i64 0])) w' := by
  unfold parseAll
  rw [h]
  simp only [h2]
  exact ⟨_, rfl, ho, hb⟩
theorem okP_yes {a : List UInt8} {r : Rul} (h : parseW (splitL 32 a) = (r, true)) : okP a = some r := by unfold okP; rw [h]; rfl
theorem okP_no {a : List UInt8} {r : Rul} (h : parseW (splitL 32 a) = (r, false)) : okP a = none := by unfold okP; rw [h]; rfl
theorem pcut_hit {u : ByteArray} {a b : List UInt8} (w : World) (hG : Glb w) (hu : u.data.toList = a ++ 10 :: b) (h : (10 : UInt8) ∉ a) (hs : u.size ≤ 900000) : Calls Tryd.prog 34 #[.string u, .string ⟨#[10]⟩] w fun e w' => e = .returned (.tuple #[.string (bys a), .string (bys b), .bool true]) ∧ ∃ n, w' = w.drewN n := by
  obtain ⟨m, hm⟩ := hG.len
  have := Tryd.strings_Cut u ⟨#[10]⟩ m w (by omega) hm
  rw [hu, show (⟨#[10]⟩ : ByteArray).data.toList = [10] from rfl, cut_hit 10 h] at this
  exact this
theorem pcut_miss {u : ByteArray} (w : World) (hG : Glb w) (h : (10 : UInt8) ∉ u.data.toList) (hs : u.size ≤ 900000) : Calls Tryd.prog 34 #[.string u, .string ⟨#[10]⟩] w fun e w' => e = .returned (.tuple #[.string u, .string ⟨#[]⟩, .bool false]) ∧ ∃ n, w' = w.drewN n := by
  obtain ⟨m, hm⟩ := hG.len
  have := Tryd.strings_Cut u ⟨#[10]⟩ m w (by omega) hm
  rw [show (⟨#[10]⟩ : ByteArray).data.toList = [10] from rfl, cut_miss 10 h] at this
  have e : (⟨u.data.toList.toArray⟩ : ByteArray) = u := data_bys u
  simpa only [e] using this
set_option maxRecDepth 100000 in
set_option maxHeartbeats 1000000 in
theorem parse_any (s : ByteArray) (w : World) (hG : Glb w) (hs : s.size ≤ 900000) : Calls Tryd.prog 20 #[.string s] w (ParseP (parseAll s.data.toList) w) := by
  obtain ⟨i0, hi, hz0, hz1, hz2⟩ := info_parts info_rul
  have HG := Lib.hid hG
  clear hG
  go_enter Tryd.func20, Tryd.ntmps20
  go_wp2_with fail
  go_loopw [0, 2, 5] (fun x v n wr => ∃ (u : ByteArray) (acc : List Rul), x = .string u ∧ n = .int .i64 (acc.length : Int) ∧ u.size + acc.length ≤ s.size ∧ Hid (OwnRuls wr w.heap.size v acc) ∧ Hid (rd (splitL 10 u.data.toList) acc.length acc = rd (splitL 10 s.data.toList) 0 []) ∧ Hid (Below w.heap.size w wr)) (fun x _ _ _ => strLen x)
  case atStart => exact ⟨s, [], rfl, rfl, by simp, ⟨World.ownsRow_nil _ _ _ _, by simp⟩, rfl, Below.refl _ _⟩
  case round =>
    obtain ⟨u, acc, rfl, rfl, hlen, HO, HRD, H0⟩ := hrel
    by_cases hu0 : u.size = 0
    · have hq : u.toList.isEmpty = true := by
        rw [List.isEmpty_iff, ByteArray.toList_eq]; exact List.length_eq_zero_iff.1 (by simpa using hu0)
      have HGOOD := Lib.hid (show rd (splitL 10 s.data.toList) 0 [] = .good acc by
        rw [← HRD.out, show u.data.toList = [] from List.length_eq_zero_iff.1 (by simpa using hu0), rd_nil])
      clear HRD hu0
      obtain ⟨A, cap, rfl, hcl, hcap, hR⟩ := HO.out.form
      have HR := Lib.hid hR
      clear hR
      have hal : acc.length ≤ 900000 := by omega
      go_wp2_with fail
      go_loopw [2, 42] (fun vv i wy => ∃ k : Nat, k ≤ acc.length ∧ vv = .slice A acc.length cap ∧ i = .int .i64 k ∧ Hid (scan acc k = none) ∧ Hid (OwnRuls wy w.heap.size (.slice A acc.length cap) acc) ∧ Hid (RulsAt wy A acc) ∧ Hid (Below w.heap.size w wy)) (fun _ i _ => acc.length - (intOf i).toNat)
      case atStart => exact ⟨0, by omega, rfl, rfl, rfl, HO, HR, H0⟩
      case round =>
        clear HO HR H0
        obtain ⟨k, hk, rfl, rfl, HS, HO, HR, H0⟩ := hrel
        by_cases hlt : k < acc.length
        · obtain ⟨x, hx⟩ : ∃ x, acc[k]? = some x := ⟨_, List.getElem?_eq_getElem hlt⟩
          obtain ⟨hf, ad, rfl, hadl, c0, c1, c2, c3, c4, c5⟩ := HR.out.at_ hx
          have HX := Lib.hid (scan_succ HS.out hx)
          have HZ := Lib.hid (fun (e : Nat × Int) (h : scan acc (k + 1) = some e) => scan_some h (show k + 1 ≤ acc.length by omega))
          have HTL := Lib.hid (show (acc.take k).length = k by rw [List.length_take]; omega)
          clear hx hf
          go_upto_region 13 with (fail)
          have K0 := Lib.hid (Blk.new wr 39 x.c)
          have NO := Lib.hid (HO.out.keep (bel_alloc wr (.cells x.c 39)))
          have NR := Lib.hid (HR.out.alloc (.cells x.c 39))
          have NT := Lib.hid ((HR.out.take k).alloc (.cells x.c 39))
          have NB := Lib.hid (H0.out.alloc H0.out.size (.cells x.c 39))
          clear HO HR H0 c0 c1 c2 c3 c4 c5
          generalize wr.alloc (.cells #[.int .i64 x.kind, .string x.sym, .string x.nam, .int .i64 x.prec, .int .i64 x.left, .int .i64 x.right] 39) = w2 at *
          generalize wr.heap.size = g at *
          have c0 := fun i => K0.out.cell i
          have l0 := K0.out.lt
          generalize hfr : freshB (acc.take k) x = fr
          have HFR := Lib.hid hfr
          clear hfr
          go_cut [51] (fun b wc => b = .bool (!fr) ∧ Hid (OwnRuls wc w.heap.size (.slice (some ad) acc.length cap) acc) ∧ Hid (RulsAt wc (some ad) acc) ∧ Hid (Below w.heap.size w wc))
          case first =>
            go_region_with ((go_at_call 32; refine (repeated_n (some ad) k cap (acc.take k) x _ NT.out.drew HTL.out (by omega)).mono ?_; rintro e wb ⟨rfl, hb6⟩; have LO := Lib.hid (NO.out.drew.keep hb6); have LR := Lib.hid (NR.out.drew.keep hb6); have LB := Lib.hid ((below_drew NB.out).trans (hb6.mono NB.out.size)); clear hb6; rw [HFR.out]))
            all_goals (go_wp2_with fail; go_meet; exact ⟨rfl, LO, LR, LB⟩)
          case rest =>
            clear K0 NO NR NT NB c0 l0
            obtain ⟨rfl, HO, HR, H0⟩ := hcut
            rw [HFR.out] at HX
            cases fr
            · have HE := Lib.hid (HZ.out _ HX.out)
              go_wp2_with fail
              refine bodyPost_ret (v := .tuple #[.slice none 0 0, .int .i64 ((k + 1 : Nat) : Int), .int .i64 9]) (by simp [results, Tryd.results20, go_sem]) rfl ?_
              exact parseP_err HGOOD.out HE.out H0.out
            · by_cases h64 : k = 64
              · obtain rfl := h64
                have HE := Lib.hid (HZ.out _ HX.out)
                go_wp2_with fail
                refine bodyPost_ret (v := .tuple #[.slice none 0 0, .int .i64 ((64 + 1 : Nat) : Int), .int .i64 6]) (by simp [results, Tryd.results20, go_sem]) rfl ?_
                exact parseP_err HGOOD.out HE.out H0.out
              · have hq2 : ((k : Int) == 64) = false := by rw [beq_eq_false_iff_ne]; omega
                have HX := Lib.hid (show scan acc (k + 1) = none by rw [HX.out, if_pos rfl, if_neg h64])
                clear h64
                go_wp2_with fail
                go_roundw
                case rel => exact ⟨k + 1, by omega, rfl, by go_num, HX, HO, HR, H0⟩
                case measure => simp [intOf]; omega
        · obtain rfl : k = acc.length := by omega
          go_wp2_with fail
          refine bodyPost_ret (v := .tuple #[.slice A acc.length cap, .int .i64 0, .int .i64 0]) (by simp [results, Tryd.results20, go_sem]) rfl ?_
          exact parseP_ok HGOOD.out HS.out HO.out H0.out
    · have hq : u.toList.isEmpty = false := by
        rw [Bool.eq_false_iff, ne_eq, List.isEmpty_iff, ByteArray.toList_eq]; intro e; apply hu0
        have := congrArg List.length e
        simpa using this
      have hq' : (!u.toList.isEmpty) = true := by rw [hq]; rfl
      rcases mem_split 10 u.data.toList with hm | ⟨a, b, hab, hm⟩
      · have HM := Lib.hid hm
        have HBAD := Lib.hid (show rd (splitL 10 s.data.toList) 0 [] = .bad (acc.length + 1) by
          rw [← HRD.out, rd_miss hm (fun e => hu0 (by have := congrArg List.length e; simpa using this))])
        clear hm HRD hu0
        go_wp2_with fail
        refine (pcut_miss wr (HG.out.keep H0.out) HM.out (by omega)).mono ?_
        rintro e w1 ⟨rfl, n1, rfl⟩
        have H0 := Lib.hid (below_drewN H0.out n1)
        clear HO
        generalize wr.drewN n1 = wx at *
        go_wp2_with fail
        refine (parse1_any u wx (HG.out.keep H0.out) (by omega)).mono ?_
        rintro e w1 ⟨rfl, hb⟩
        have H1 := Lib.hid (H0.out.trans (hb.mono H0.out.size))
        clear hb H0
        generalize parseW (splitL 32 u.data.toList) = pw
        obtain ⟨r, ok⟩ := pw
        go_wp2_with fail
        refine bodyPost_ret (v := .tuple #[.slice none 0 0, .int .i64 ((acc.length + 1 : Nat) : Int), .int .i64 3]) (by simp [results, Tryd.results20, go_sem]) rfl ?_
        exact parseP_bad HBAD.out (H1.out.alloc H1.out.size _)
      · have HAB := Lib.hid hab
        have HM := Lib.hid hm
        have hsz : a.length + b.length + 1 ≤ u.size := by
          have := congrArg List.length hab
          simp at this
          omega
        clear hab hm
        go_wp2_with fail
        refine (pcut_hit wr (HG.out.keep H0.out) HAB.out HM.out (by omega)).mono ?_
        rintro e w1 ⟨rfl, n1, rfl⟩
        have HO := Lib.hid (show OwnRuls (wr.drewN n1) w.heap.size u2 acc from HO.out)
        have H0 := Lib.hid (below_drewN H0.out n1)
        generalize wr.drewN n1 = wx at *
        go_wp2_with fail
        refine (parse1_any (bys a) wx (HG.out.keep H0.out) (by rw [bys_size]; omega)).mono ?_
        rintro e w1 ⟨rfl, hb⟩
        have HO := Lib.hid (HO.out.keep hb)
        have H1 := Lib.hid (H0.out.trans (hb.mono H0.out.size))
        clear hb H0
        rw [bys_data]
        generalize hpw : parseW (splitL 32 a) = pw
        have HPW := Lib.hid hpw
        clear hpw
        obtain ⟨r, ok⟩ := pw
        cases ok
        · have HBAD := Lib.hid (show rd (splitL 10 s.data.toList) 0 [] = .bad (acc.length + 1) by
            rw [← HRD.out, HAB.out, rd_bad HM.out _ _ (okP_no HPW.out)])
          go_wp2_with fail
          refine bodyPost_ret (v := .tuple #[.slice none 0 0, .int .i64 ((acc.length + 1 : Nat) : Int), .int .i64 3]) (by simp [results, Tryd.results20, go_sem]) rfl ?_
          exact parseP_bad HBAD.out (H1.out.alloc H1.out.size _)
        · have HOK := Lib.hid (okP_yes HPW.out)
          have HRD2 := Lib.hid (show rd (splitL 10 b) (acc.length + 1) (acc ++ [r]) = rd (splitL 10 s.data.toList) 0 [] by
            rw [← HRD.out, HAB.out, rd_hit HM.out _ _ HOK.out])
          have HFIT := Lib.hid (own_fits (okP_inv HOK.out).1)
          have hown := ((HO.out.1).alloc (.cells r.c 39)).alloc (.cells r.c 39)
          have HBL := Lib.hid (HO.out.1.lt)
          have HFA := Lib.hid HO.out.2
          have hal : acc.length ≤ 900000 := by omega
          clear HRD HO
          have HSZ := Lib.hid H1.out.size
          go_wp2_with (at_builtin; refine wpList_append_own _ rfl (.tmp 35) (.tmp 37) 22 rfl w.heap.size 39 i0 zeroR.v 6 64 Tryd.underlying22 hi hz0 hz1 hz2 rfl (by decide) _ _ _ rfl hown ⟨w1.heap.size + 1, 0, none⟩ 1 1 r.c.toList rfl rfl ?c1a ?c2a ?c3a ?c4a ?c5a ?_)
          case c2a => exact ⟨rfl, rfl, rfl, rfl, rfl, rfl⟩
          case c3a => unfold maxLen; omega
          case c4a => omega
          case c5a => have := HSZ.out; simp; omega
          · intro v' w2 hown' hgrow _
            have NB := Lib.hid (((H1.out.alloc H1.out.size (.cells r.c 39)).alloc (by have := HSZ.out; simp; omega) (.cells r.c 39)).grown hgrow (by have := HSZ.out; simp; omega) (fun k hk => (HBL.out k hk).1))
            rw [← cellsR_snoc] at hown'
            have NO := Lib.hid (show OwnRuls w2 w.heap.size v' (acc ++ [r]) from ⟨by simpa using hown', fun x hx => by
              rcases List.mem_append.1 hx with h | h
              · exact HFA.out x h
              · rw [List.mem_singleton.1 h]; exact HFIT.out⟩)
            clear hown' hgrow hown H1
            go_wp2_with fail
            go_roundw
            case rel => exact ⟨bys b, acc ++ [r], rfl, by simp, by rw [bys_size]; simp; omega, NO, Lib.hid (by rw [bys_data]; simpa using HRD2.out), NB⟩
            case measure => show (bys b).size < u.size; rw [bys_size]; omega
end Go.Proofs.YtgkfmeagpmjcoaaDoor
