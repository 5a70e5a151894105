/- Fresh names and free names of the reference. -/
import Derived.Test.YtpokelkneblafaaGreatDoorFM
namespace Go.Proofs.YtpokelkneblafaaGreatDoor
open Go.RowKit
def lenV : Value → Nat
  | .slice _ n _ => n
  | _ => 0
def allS : ByteArray := ⟨#[97, 98, 99, 100, 101, 102, 103, 104, 105, 106, 107, 108, 109, 110, 111, 112, 113, 114, 115, 116, 117, 118, 119, 120, 121, 122, 65, 66, 67, 68, 69, 70, 71, 72, 73, 74, 75, 76, 77, 78, 79, 80, 81, 82, 83, 84, 85, 86, 87, 88, 89, 90]⟩
theorem all_one : ∀ j : Nat, j < 52 → allS.extract j (j + 1) = bys [letsL.getD j 0] := by decide +kernel
theorem all_at {j : Nat} {c : UInt8} (h : letsL[j]? = some c) (p : Nm) : bys p ++ allS.extract j (j + 1) = bys (p ++ [c]) := by
  have hl := (List.getElem?_eq_some_iff.1 h).1
  rw [all_one j hl, List.getD_eq_getElem?_getD, h, bys_app]
  rfl
theorem next_mem {ts nx : List Nm} {q : Nm} (h : ∀ p ∈ nx, idB p = true → p ∈ ts) (hq : idB q = true → q ∈ ts) : ∀ p ∈ nx ++ [q], idB p = true → p ∈ ts := fun p hp hi => by
  rcases List.mem_append.1 hp with h1 | h1
  · exact h p h1 hi
  · obtain rfl := List.mem_singleton.1 h1
    exact hq hi
/-- behind Fresh -/
def FreshP (ts : List Nm) (w : World) (e : Ending) (w' : World) : Prop := ∃ s : ByteArray, e = .returned (.string s) ∧ idB s.data.toList = true ∧ s.data.toList ∉ ts ∧ Below w.heap.size w w'
set_option maxRecDepth 100000 in
set_option maxHeartbeats 4000000 in
theorem fresh_any (v : Value) (ts : List Nm) (w : World) (h : NmL w v ts) (hn : ts.length ≤ 300) : Calls Tryz.prog 29 #[v] w (FreshP ts w) := by
  obtain ⟨s0, hs, hy0, hy1, hy2⟩ := info_parts info_str
  obtain ⟨A, cap, rfl, hca, hcb, hN⟩ := h
  have HN := Lib.hid hN
  have HF := Lib.hid (fun h => fresh_two hn h)
  clear hN
  have HB0 := Lib.hid (bel_alloc w (.cells #[.string ⟨#[]⟩] 9))
  have HW0 := Lib.hid (OwnS.new w w.heap.size (Nat.le_refl _) [[]] 1 rfl (by omega) #[.string ⟨#[]⟩] (by rfl)).nml
  go_enter Tryz.func29, Tryz.ntmps29
  go_wp2_with fail
  go_loopw [3] (fun v wr => ∃ (r : Nat) (ws : List Nm), Hid (ws = (if r = 0 then [[]] else oneL)) ∧ ws.length ≤ 52 ∧ Hid (NmL wr v ws) ∧ Hid (Below w.heap.size w wr)) (fun v _ => 100 - lenV v)
  case atStart => exact ⟨0, [[]], Lib.hid rfl, by simp, HW0, HB0⟩
  case round =>
    clear HW0 HB0
    obtain ⟨r, ws, HR, hwl, HW, HB⟩ := hrel
    generalize wr = w0 at *
    obtain ⟨B, cb, hv, hcw, hcx, hW⟩ := HW.out
    subst hv
    have HW := Lib.hid hW
    clear hW
    go_wp2_with fail
    go_loopw [4, 5] (fun x i wr => ∃ (k : Nat) (nx : List Nm), k ≤ ws.length ∧ i = .int .i64 k ∧ Hid (nx = nextL (ws.take k)) ∧ Hid (∀ p ∈ nx, idB p = true → p ∈ ts) ∧ Hid (NSt w0 wr x nx)) (fun _ i _ => ws.length - (intOf i).toNat)
    case atStart => exact ⟨0, [], by omega, rfl, Lib.hid rfl, Lib.hid (fun p h => by simp at h), Lib.hid ⟨Below.refl _ _, OwnS.nil _ _⟩⟩
    case round =>
      obtain ⟨k, nx, hk, rfl, HX, HA, HS⟩ := hrel
      by_cases hlt : k < ws.length
      · obtain ⟨p, hp⟩ : ∃ p, ws[k]? = some p := ⟨_, List.getElem?_eq_getElem hlt⟩
        have HP := Lib.hid hp
        have HPL := Lib.hid (show p.length ≤ 1000000 by
          have hmem := List.mem_of_getElem? hp
          rw [HR.out] at hmem
          split at hmem
          · obtain rfl := List.mem_singleton.1 hmem; simp
          · have : ∀ q ∈ oneL, q.length ≤ 1 := by decide +kernel
            have := this p hmem
            omega)
        have HKL := Lib.hid (show nx.length ≤ 52 * 52 by rw [HX.out, next_len, List.length_take]; omega)
        clear hp
        go_wp2_with fail
        go_loopw [4, 6] (fun x i wr => ∃ (j : Nat) (ny : List Nm), j ≤ 52 ∧ i = .int .i64 j ∧ ny = nx ++ (extL p).take j ∧ Hid (∀ p ∈ ny, idB p = true → p ∈ ts) ∧ Hid (NSt w0 wr x ny)) (fun _ i _ => 52 - (intOf i).toNat)
        case atStart => exact ⟨0, nx, by omega, rfl, by simp, HA, HS⟩
        case round =>
          clear HA HS
          obtain ⟨j, ny, hj, rfl, hny, HA, HS⟩ := hrel
          by_cases hjt : j < 52
          · obtain ⟨c, hc⟩ : ∃ c, letsL[j]? = some c := ⟨_, List.getElem?_eq_getElem (show j < letsL.length from hjt)⟩
            have HNX := Lib.hid (show ny ++ [p ++ [c]] = nx ++ (extL p).take (j + 1) by rw [ext_snoc hc, hny, List.append_assoc])
            have HZL := Lib.hid (show ny.length ≤ 3000 by
              rw [hny, List.length_append, List.length_take, ext_len]
              have := HKL.out
              omega)
            have HE := Lib.hid (all_at hc p)
            unfold allS at HE
            clear hc hny
            obtain ⟨ad, rfl, _, hcell⟩ := (HW.out.keep HS.out.bel) k p HP.out
            have w1 : IntKind.i64.wrap ((j : Int) + 1) = (j : Int) + 1 := IntWalk.i64_in _ (by omega)
            have hs1 : (0 : Int) ≤ (j : Int) := by omega
            have hs2 : (j : Int) ≤ (j : Int) + 1 := by omega
            have hs3 : (j : Int) + 1 ≤ 52 := by omega
            have hs4 : (j : Int) + 1 ≤ ((⟨#[97, 98, 99, 100, 101, 102, 103, 104, 105, 106, 107, 108, 109, 110, 111, 112, 113, 114, 115, 116, 117, 118, 119, 120, 121, 122, 65, 66, 67, 68, 69, 70, 71, 72, 73, 74, 75, 76, 77, 78, 79, 80, 81, 82, 83, 84, 85, 86, 87, 88, 89, 90]⟩ : ByteArray).size : Int) := hs3
            have hs5 : ((j : Int) + 1).toNat = j + 1 := by omega
            have hz1 : (bys p).size ≤ 1000000 := by rw [show (bys p).size = p.length by simp [bys, ByteArray.size]]; exact HPL.out
            have hz2 : (allS.extract j (j + 1)).size ≤ 1 := by rw [all_one j hjt]; simp [bys, ByteArray.size]
            unfold allS at hz2
            go_upto_region 9 with (fail)
            go_quiet (fail)
            rw [HE.out]
            clear HE hcell w1 hz1 hz2 hs1 hs2 hs3 hs4 hs5
            replace HS := Lib.hid (HS.out.next (below_drewN (Below.refl _ _) nq))
            generalize wr.drewN nq = wq at *
            have hpl := HZL.out
            clear HZL
            have HID := Lib.hid (rident_any (bys (p ++ [c])) wq (by rw [show (bys (p ++ [c])).size = (p ++ [c]).length by simp [bys, ByteArray.size]]; have := HPL.out; simp; omega))
            rw [show (bys (p ++ [c])).toList = p ++ [c] by rw [ByteArray.toList_eq, bys_data]] at HID
            cases hi : idB (p ++ [c])
            · have HA3 := Lib.hid (next_mem HA.out (q := p ++ [c]) (fun e => by rw [hi] at e; cases e))
              go_wp2_with fail
              refine HID.out.mono ?_
              rintro e w2 ⟨rfl, hb⟩
              rw [hi]
              replace HS := Lib.hid (HS.out.next hb)
              clear hb
              generalize w2 = wq at *
              clear hi
              have hba := bel_alloc wq (.cells #[.string (bys (p ++ [c]))] 9)
              have HS2 := Lib.hid (NSt.mk (HS.out.bel.alloc HS.out.bel.size (.cells #[.string (bys (p ++ [c]))] 9)) (HS.out.own.keep hba))
              have HN := Lib.hid (OwnS.new wq w0.heap.size HS.out.bel.size [p ++ [c]] 1 rfl (by omega) #[.string (bys (p ++ [c]))] (by rfl))
              clear hba
              go_wp2_with (at_builtin; refine wpList_append_any _ rfl (.tmp 37) (.tmp 39) 61 rfl w0.heap.size 9 s0 (.string ⟨#[]⟩) 1 16 Tryz.underlying61 hs hy0 hy1 hy2 rfl (by decide) _ _ _ rfl HS2.out.own _ (some ⟨wq.heap.size, 0, none⟩) 1 1 ([p ++ [c]].map strV) rfl (OwnS.reads HN.out rfl) strs_one (by unfold maxLen; omega) (by omega) HS2.out.bel.size ?_); intro v' w' g2 g3 g4
              have HS3 := Lib.hid (NSt.mk (HS2.out.bel.grown g3 HS2.out.bel.size fun b hb => (HS2.out.own.lt b hb).1) (OwnS.snoc (us := [p ++ [c]]) rfl rfl g2))
              clear g2 g3 g4 HS2 HN
              go_wp2_with fail
              go_roundw
              case rel => exact ⟨j + 1, _, by omega, by go_num, HNX.out, HA3, HS3⟩
              case measure => simp [intOf]; omega
            · go_wp2_with fail
              refine HID.out.mono ?_
              rintro e w2 ⟨rfl, hb⟩
              rw [hi]
              replace HS := Lib.hid (HS.out.next hb)
              clear hb
              generalize w2 = wq at *
              have HI := Lib.hid hi
              clear hi
              go_wp2_with fail
              refine (has_any A cap ts (bys (p ++ [c])) wq ((HN.out.keep HB.out).keep HS.out.bel) (by omega)).mono ?_
              rintro e w3 ⟨rfl, hb⟩
              rw [bys_data]
              replace HS := Lib.hid (HS.out.next hb)
              clear hb
              by_cases hm : p ++ [c] ∈ ts
              · rw [decide_eq_true hm]
                have HA3 := Lib.hid (next_mem HA.out (q := p ++ [c]) (fun _ => hm))
                clear hm
                generalize w3 = wq at *
                have hba := bel_alloc wq (.cells #[.string (bys (p ++ [c]))] 9)
                have HS2 := Lib.hid (NSt.mk (HS.out.bel.alloc HS.out.bel.size (.cells #[.string (bys (p ++ [c]))] 9)) (HS.out.own.keep hba))
                have HN := Lib.hid (OwnS.new wq w0.heap.size HS.out.bel.size [p ++ [c]] 1 rfl (by omega) #[.string (bys (p ++ [c]))] (by rfl))
                clear hba
                go_wp2_with (at_builtin; refine wpList_append_any _ rfl (.tmp 37) (.tmp 39) 61 rfl w0.heap.size 9 s0 (.string ⟨#[]⟩) 1 16 Tryz.underlying61 hs hy0 hy1 hy2 rfl (by decide) _ _ _ rfl HS2.out.own _ (some ⟨wq.heap.size, 0, none⟩) 1 1 ([p ++ [c]].map strV) rfl (OwnS.reads HN.out rfl) strs_one (by unfold maxLen; omega) (by omega) HS2.out.bel.size ?_); intro v' w' g2 g3 g4
                have HS3 := Lib.hid (NSt.mk (HS2.out.bel.grown g3 HS2.out.bel.size fun b hb => (HS2.out.own.lt b hb).1) (OwnS.snoc (us := [p ++ [c]]) rfl rfl g2))
                clear g2 g3 g4 HS2 HN
                go_wp2_with fail
                go_roundw
                case rel => exact ⟨j + 1, _, by omega, by go_num, HNX.out, HA3, HS3⟩
                case measure => simp [intOf]; omega
              · rw [decide_eq_false hm]
                have HM := Lib.hid hm
                clear hm
                go_wp2_with fail
                go_ret
                exact ⟨_, rfl, by rw [bys_data]; exact HI.out, by rw [bys_data]; exact HM.out, HB.out.trans (HS.out.bel.mono HB.out.size)⟩
          · obtain rfl : j = 52 := by omega
            have HX3 := Lib.hid (show ny = nextL (ws.take (k + 1)) by rw [hny, next_snoc HP.out, HX.out, List.take_of_length_le (show (extL p).length ≤ 52 by rw [ext_len]; exact Nat.le_refl _)])
            clear hny
            go_wp2_with fail
            go_roundw
            case rel => exact ⟨k + 1, ny, by omega, by go_num, HX3, HA, HS⟩
            case measure => simp [intOf]; omega
      · obtain rfl : k = ws.length := by omega
        rw [List.take_length] at HX
        by_cases hr : r = 0
        · subst hr
          have HWS := Lib.hid (show ws = [[]] from HR.out)
          have HNX := Lib.hid (show nx = oneL by rw [HX.out, HWS.out]; exact next_one)
          have hnl : nx.length = 52 := by rw [HNX.out]; rfl
          have hwl1 : ws.length = 1 := by rw [HWS.out]; rfl
          go_wp2_with fail
          go_roundw
          case rel => exact ⟨1, nx, Lib.hid (by rw [HNX.out]; rfl), by omega, Lib.hid HS.out.own.nml, Lib.hid (HB.out.trans (HS.out.bel.mono HB.out.size))⟩
          case measure =>
            obtain ⟨A5, c5, e5, _⟩ := HS.out.own.form
            rw [e5]
            unfold lenV
            dsimp only
            omega
        · have HWS := Lib.hid (show ws = oneL by have := HR.out; rw [if_neg hr] at this; exact this)
          exact (HF.out (fun p hp hi => HA.out p (by rw [HX.out, HWS.out]; exact hp) hi)).elim
/-- a name that is free in one of the first arguments -/
def FrP (s : Nm) (bnd : Bool) (v : Nm) (ts : List Trm) (n : Nat) : Prop := ∃ i t, i < n ∧ ts[i]? = some t ∧ frM s t = true ∧ ¬ (bnd = true ∧ i + 1 = ts.length ∧ v = s)
theorem frML_iff (s : Nm) (bnd : Bool) (v : Nm) : ∀ ts : List Trm, frML s bnd v ts = true ↔ FrP s bnd v ts ts.length
  | [] => by
    rw [frML]
    exact ⟨(fun h => by cases h), fun ⟨i, t, h, _⟩ => absurd h (Nat.not_lt_zero _)⟩
  | t :: ts => by
    rw [frML, Bool.or_eq_true, frML_iff s bnd v ts]
    constructor
    · rintro (h | ⟨i, u, h1, h2, h3, h4⟩)
      · rw [Bool.and_eq_true] at h
        refine ⟨0, t, by simp, rfl, h.1, ?_⟩
        rintro ⟨rfl, g2, rfl⟩
        have : ts.isEmpty = true := by cases ts with
          | nil => rfl
          | cons a r => simp at g2
        rw [this] at h
        simp at h
      · exact ⟨i + 1, u, by simp; omega, by simpa using h2, h3, fun ⟨g1, g2, g3⟩ => h4 ⟨g1, by simpa using g2, g3⟩⟩
    · rintro ⟨i, u, h1, h2, h3, h4⟩
      cases i with
      | zero =>
        obtain rfl : t = u := by simpa using h2
        refine .inl ?_
        rw [h3, Bool.true_and]
        cases bnd
        · rfl
        · cases ts with
          | nil =>
            have : v ≠ s := fun e => h4 ⟨rfl, rfl, e⟩
            rw [decide_eq_false this]; rfl
          | cons a r => rfl
      | succ i => exact .inr ⟨i, u, by simpa using h1, by simpa using h2, h3, fun ⟨g1, g2, g3⟩ => h4 ⟨g1, by simpa using g2, g3⟩⟩
theorem FrP.step {s : Nm} {bnd : Bool} {v : Nm} {ts : List Trm} {j : Nat} {y : Trm} (h : ts[j]? = some y) : FrP s bnd v ts (j + 1) ↔ FrP s bnd v ts j ∨ (frM s y = true ∧ ¬ (bnd = true ∧ j + 1 = ts.length ∧ v = s)) := by
  constructor
  · rintro ⟨i, t, h1, h2, h3, h4⟩
    rcases Nat.lt_or_ge i j with hi | hi
    · exact .inl ⟨i, t, hi, h2, h3, h4⟩
    · obtain rfl : i = j := by omega
      obtain rfl : y = t := by rw [h] at h2; exact Option.some.inj h2
      exact .inr ⟨h3, h4⟩
  · rintro (⟨i, t, h1, h2, h3, h4⟩ | ⟨h3, h4⟩)
    · exact ⟨i, t, by omega, h2, h3, h4⟩
    · exact ⟨j, y, by omega, h, h3, h4⟩
theorem frM_node {s : Nm} {k : Int} {a v f : ByteArray} {ts : List Trm} (hk : k ≠ 2) : frM s (.mk k a v f ts) = true ↔ FrP s (decide (k = 5)) v.data.toList ts ts.length := by
  rw [frM, if_neg hk]
  exact frML_iff _ _ _ _
mutual
theorem fr_id : ∀ {s : Nm} (t : Trm), formM t = true → frM s t = true → idB s = true
  | s, .mk k a v f ts, hm, h => by
    by_cases hk : k = 2
    · subst hk
      rw [frM, if_pos rfl, decide_eq_true_eq] at h
      rw [← h]
      exact (var_form hm).2.2.2
    · rw [frM, if_neg hk] at h
      rw [formM, Bool.and_eq_true] at hm
      exact fr_idL ts hm.2 h
theorem fr_idL : ∀ {s : Nm} {bnd : Bool} {v : Nm} (ts : List Trm), formML ts = true → frML s bnd v ts = true → idB s = true
  | s, bnd, v, [], _, h => by rw [frML] at h; cases h
  | s, bnd, v, t :: ts, hm, h => by
    rw [frML, Bool.or_eq_true] at h
    rw [formML, Bool.and_eq_true] at hm
    rcases h with h | h
    · rw [Bool.and_eq_true] at h
      exact fr_id t hm.1 h.1
    · exact fr_idL ts hm.2 h
end
theorem id_len {l : Nm} (h : idB l = true) : l.length ≤ 1000000 := by
  have := (id_named h).2.2
  omega
set_option maxRecDepth 100000 in
set_option maxHeartbeats 4000000 in
theorem free_any : ∀ (z : Nat) (t : Trm) (c : Array Value) (w : World), cntM t ≤ z → z ≤ 1000 → formM t = true → MAt w t c → Calls Tryz.prog 27 #[.agg c] w (NmP w (cntM t) fun s => frM s t = true) := by
  intro z
  induction z with
  | zero => intro t c w h; have := cnt_pos t; omega
  | succ z ih =>
    intro t c w hz hz2 hm hM
    have IH := Lib.hid (fun t c w h hf hN => ih t c w h (by omega) hf hN)
    clear ih
    obtain ⟨A, cap, rfl, ha, hv, hf, hl, hc, hk⟩ := hM.form
    obtain ⟨k, a, v, f, ts⟩ := t
    dsimp only [Trm.kind, Trm.nam, Trm.vr, Trm.form, Trm.args] at ha hv hf hl hk ⊢
    have HM := Lib.hid hm
    have HK := Lib.hid (hk.keep (bel_alloc w (.cells (trmC k a v A ts.length cap f) 25)))
    have HB := Lib.hid (bel_alloc w (.cells (trmC k a v A ts.length cap f) 25))
    have K1 := Lib.hid (Blk.new w 25 (trmC k a v A ts.length cap f))
    have HT := Lib.hid (show cntM (.mk k a v f ts) = cntL ts + 1 by rw [cntM])
    have HZ0 := Lib.hid (show cntL ts ≤ z ∧ z ≤ 1000 by rw [cntM] at hz; omega)
    have HL : ts.length ≤ 1000 := by have := len_cntL ts; have := HZ0.out; omega
    clear hz hM hk hm
    dsimp only [trmC] at HK HB K1
    have c0 := K1.out.cell 0
    by_cases h2 : k = 2
    · subst h2
      have c1 := K1.out.cell 1
      have HO := Lib.hid (show OwnS ((w.alloc (.cells #[.int .i64 2, .string a, .string v, .slice A ts.length cap, .string f] 25)).alloc (.cells #[.string a] 9)) w.heap.size (.slice (some ⟨w.heap.size + 1, 0, none⟩) 1 1) [a.data.toList] by
        have h := OwnS.new (w.alloc (.cells #[.int .i64 2, .string a, .string v, .slice A ts.length cap, .string f] 25)) w.heap.size HB.out.size [a.data.toList] 1 rfl (by omega) #[.string a] (by simp [strV, bys_of])
        rw [World.size_alloc] at h
        exact h)
      have HB2 := Lib.hid (HB.out.alloc HB.out.size (.cells #[.string a] 9))
      go_enter Tryz.func27, Tryz.ntmps27
      go_wp2_with fail
      go_ret
      exact ⟨_, [a.data.toList], rfl, HO.out.nml, by rw [HT.out, List.length_singleton]; omega, fun z => by show z ∈ [a.data.toList] ↔ frM z (.mk 2 a v f ts) = true; rw [List.mem_singleton, frM, if_pos rfl, decide_eq_true_eq]; exact eq_comm, HB2.out⟩
    have q2 : (k == 2) = false := beq_eq_false_iff_ne.2 h2
    have HFR := Lib.hid (fun s => frM_node (s := s) (a := a) (v := v) (f := f) (ts := ts) h2)
    clear h2
    go_enter Tryz.func27, Tryz.ntmps27
    go_wp2_with fail
    clear c0
    go_loopw [3, 4] (fun x i wr => ∃ (j : Nat) (zs : List Nm), j ≤ ts.length ∧ i = .int .i64 j ∧ zs.length ≤ cntL (ts.take j) ∧ Hid (∀ s, s ∈ zs ↔ FrP s (decide (k = 5)) v.data.toList ts j) ∧ Hid (NmL wr x zs) ∧ Hid (Blk wr w.heap.size 25 (trmC k a v A ts.length cap f)) ∧ Hid (ArgsAt wr A ts) ∧ Hid (Below w.heap.size w wr)) (fun _ i _ => ts.length - (intOf i).toNat)
    case atStart => exact ⟨0, [], by omega, rfl, by simp, Lib.hid (fun s => ⟨fun h => by simp at h, fun ⟨i, t, h, _⟩ => absurd h (Nat.not_lt_zero _)⟩), Lib.hid ⟨none, 0, rfl, by simp, by omega, NmsAt.nil _ _⟩, K1, HK, HB⟩
    case round =>
      clear K1 HK HB
      obtain ⟨j, zs, hj, rfl, hzl, HMZ, HZ, K1, HK, HB⟩ := hrel
      have c3 := K1.out.cell 3
      dsimp only [trmC] at c3
      by_cases hlt : j < ts.length
      · obtain ⟨y, hy⟩ : ∃ y, ts[j]? = some y := ⟨_, List.getElem?_eq_getElem hlt⟩
        obtain ⟨ad, A', cap', rfl, hadl, hp⟩ := HK.out.at_ hy
        have HY := Lib.hid hp.whole
        obtain ⟨-, d0, d1, d2, d3, d4, -⟩ := hp
        have hcy := cnt_arg hy
        have hsn := cntL_snoc hy
        have htk := cntL_take ts (j + 1)
        have HFY := Lib.hid (formML_at (by have := HM.out; rw [formM, Bool.and_eq_true] at this; exact this.2) hy)
        have HSY := Lib.hid (show cntM y ≤ z by have := HZ0.out; omega)
        have HSTEP0 := Lib.hid (fun s => FrP.step (s := s) (bnd := decide (k = 5)) (v := v.data.toList) hy)
        have HIZ := Lib.hid (show ∀ p ∈ zs, idB p = true from fun p hp => by
          obtain ⟨i, u, _, h2, h3, _⟩ := (HMZ.out p).1 hp
          have hm := HM.out
          rw [formM, Bool.and_eq_true] at hm
          exact fr_id u (formML_at hm.2 h2) h3)
        clear hy
        go_wp2_with fail
        refine (IH.out y _ _ HSY.out HFY.out HY.out).mono ?_
        rintro e wx ⟨v5, z5, rfl, hL5, hl5, hm5, hb⟩
        have HL5 := Lib.hid hL5
        have HM5 := Lib.hid hm5
        have HI5 := Lib.hid (show ∀ p ∈ z5, idB p = true from fun p hp => fr_id y HFY.out ((hm5 p).1 hp))
        replace HZ := Lib.hid (HZ.out.keep hb)
        replace K1 := Lib.hid (keep hb K1.out)
        replace HK := Lib.hid (HK.out.keep hb)
        replace HB := Lib.hid (HB.out.trans (hb.mono HB.out.size))
        clear hb hL5 hm5 HY d0 d1 d2 d3 d4 c3
        have c0 := K1.out.cell 0
        have c3 := K1.out.cell 3
        dsimp only [trmC] at c0 c3
        have w1 : IntKind.i64.wrap ((ts.length : Int) - 1) = (ts.length : Int) - 1 := IntWalk.i64_in _ (by omega)
        by_cases hb5 : k = 5 ∧ j + 1 = ts.length
        · have q5 : (k == 5) = true := beq_iff_eq.2 hb5.1
          have qj : ((j : Int) == (ts.length : Int) - 1) = true := by rw [beq_iff_eq]; omega
          have HB5 := Lib.hid hb5
          clear hb5
          have c2 := K1.out.cell 2
          dsimp only [trmC] at c2
          obtain ⟨A4, c4, rfl, hca4, hcb4, hT4⟩ := HL5.out
          have HT4 := Lib.hid hT4
          clear hT4 HL5
          go_wp2_with fail
          refine (without_any A4 c4 z5 v wx HT4.out (by have := HSY.out; have := HZ0.out; omega)).mono ?_
          rintro e wy ⟨v6, z6, rfl, hL6, hl6, hm6, hb⟩
          have HL5 := Lib.hid hL6
          have HSTEP := Lib.hid (show ∀ s, s ∈ zs ∨ s ∈ z6 ↔ FrP s (decide (k = 5)) v.data.toList ts (j + 1) from fun s => by
            rw [HSTEP0.out s, HMZ.out s, show s ∈ z6 ↔ s ∈ z5 ∧ s ≠ v.data.toList from hm6 s, HM5.out s, decide_eq_true HB5.out.1]
            exact or_congr_right (and_congr_right fun _ => ⟨fun h g => h g.2.2.symm, fun h e => h ⟨rfl, HB5.out.2, e.symm⟩⟩))
          have HIDS := Lib.hid (show ∀ p, p ∈ zs ∨ p ∈ z6 → p.length ≤ 1000000 from fun p hp => id_len (hp.elim (HIZ.out p) fun h => HI5.out p ((hm6 p).1 h).1))
          have HLN := Lib.hid (show zs.length + z6.length ≤ cntL (ts.take (j + 1)) ∧ zs.length + z6.length ≤ 1000000 by have := HZ0.out; omega)
          replace HZ := Lib.hid (HZ.out.keep hb)
          replace K1 := Lib.hid (keep hb K1.out)
          replace HK := Lib.hid (HK.out.keep hb)
          replace HB := Lib.hid (HB.out.trans (hb.mono HB.out.size))
          clear hb hL6 hm6 c0 c2 c3 w1 HM5 HSTEP0 HT4
          generalize wy = wx at *
          obtain ⟨A5, c5, rfl, hca5, hcb5, hT5⟩ := HL5.out
          have HT5 := Lib.hid (show NmL wx (.slice A5 z6.length c5) z6 from ⟨A5, c5, rfl, hca5, hcb5, hT5⟩)
          clear hT5 HL5
          have k3 := K1.out.cell 3
          go_wp2_with fail
          refine (union_any _ _ zs z6 wx HZ.out HT5.out (by have := HLN.out; omega) HIDS.out).mono ?_
          rintro e w9 ⟨v9, z9, rfl, hN9, hl9, hm9, hb⟩
          replace K1 := Lib.hid (keep hb K1.out)
          replace HK := Lib.hid (HK.out.keep hb)
          replace HB := Lib.hid (HB.out.trans (hb.mono HB.out.size))
          have HN9 := Lib.hid hN9
          have HM9 := Lib.hid (show ∀ z, z ∈ z9 ↔ FrP z (decide (k = 5)) v.data.toList ts (j + 1) from fun z => (hm9 z).trans (HSTEP.out z))
          clear hb hN9 hm9 k3 HT5
          go_wp2_with fail
          go_roundw
          case rel => exact ⟨j + 1, z9, by omega, by go_num, by have := HLN.out; omega, HM9, HN9, K1, HK, HB⟩
          case measure => simp [intOf]; omega
        · have HSTEP := Lib.hid (show ∀ s, s ∈ zs ∨ s ∈ z5 ↔ FrP s (decide (k = 5)) v.data.toList ts (j + 1) from fun s => by
            rw [HSTEP0.out s, HMZ.out s, HM5.out s]
            exact or_congr_right ⟨fun h => ⟨h, fun g => hb5 ⟨of_decide_eq_true g.1, g.2.1⟩⟩, fun h => h.1⟩)
          have HIDS := Lib.hid (show ∀ p, p ∈ zs ∨ p ∈ z5 → p.length ≤ 1000000 from fun p hp => id_len (hp.elim (HIZ.out p) (HI5.out p)))
          have HLN := Lib.hid (show zs.length + z5.length ≤ cntL (ts.take (j + 1)) ∧ zs.length + z5.length ≤ 1000000 by have := HZ0.out; omega)
          clear HM5 HSTEP0
          by_cases h5 : k = 5
          · have q5 : (k == 5) = true := beq_iff_eq.2 h5
            have qj : ((j : Int) == (ts.length : Int) - 1) = false := by rw [beq_eq_false_iff_ne]; intro e; exact hb5 ⟨h5, by omega⟩
            clear hb5 h5
            obtain ⟨A5, c5, rfl, hca5, hcb5, hT5⟩ := HL5.out
            have HT5 := Lib.hid (show NmL wx (.slice A5 z5.length c5) z5 from ⟨A5, c5, rfl, hca5, hcb5, hT5⟩)
            clear hT5 HL5
            have k3 := K1.out.cell 3
            go_wp2_with fail
            refine (union_any _ _ zs z5 wx HZ.out HT5.out (by have := HLN.out; omega) HIDS.out).mono ?_
            rintro e w9 ⟨v9, z9, rfl, hN9, hl9, hm9, hb⟩
            replace K1 := Lib.hid (keep hb K1.out)
            replace HK := Lib.hid (HK.out.keep hb)
            replace HB := Lib.hid (HB.out.trans (hb.mono HB.out.size))
            have HN9 := Lib.hid hN9
            have HM9 := Lib.hid (show ∀ z, z ∈ z9 ↔ FrP z (decide (k = 5)) v.data.toList ts (j + 1) from fun z => (hm9 z).trans (HSTEP.out z))
            clear hb hN9 hm9 k3 HT5
            go_wp2_with fail
            go_roundw
            case rel => exact ⟨j + 1, z9, by omega, by go_num, by have := HLN.out; omega, HM9, HN9, K1, HK, HB⟩
            case measure => simp [intOf]; omega
          · have q5 : (k == 5) = false := beq_eq_false_iff_ne.2 h5
            clear hb5 h5
            obtain ⟨A5, c5, rfl, hca5, hcb5, hT5⟩ := HL5.out
            have HT5 := Lib.hid (show NmL wx (.slice A5 z5.length c5) z5 from ⟨A5, c5, rfl, hca5, hcb5, hT5⟩)
            clear hT5 HL5
            have k3 := K1.out.cell 3
            go_wp2_with fail
            refine (union_any _ _ zs z5 wx HZ.out HT5.out (by have := HLN.out; omega) HIDS.out).mono ?_
            rintro e w9 ⟨v9, z9, rfl, hN9, hl9, hm9, hb⟩
            replace K1 := Lib.hid (keep hb K1.out)
            replace HK := Lib.hid (HK.out.keep hb)
            replace HB := Lib.hid (HB.out.trans (hb.mono HB.out.size))
            have HN9 := Lib.hid hN9
            have HM9 := Lib.hid (show ∀ z, z ∈ z9 ↔ FrP z (decide (k = 5)) v.data.toList ts (j + 1) from fun z => (hm9 z).trans (HSTEP.out z))
            clear hb hN9 hm9 k3 HT5
            go_wp2_with fail
            go_roundw
            case rel => exact ⟨j + 1, z9, by omega, by go_num, by have := HLN.out; omega, HM9, HN9, K1, HK, HB⟩
            case measure => simp [intOf]; omega
      · obtain rfl : j = ts.length := by omega
        rw [List.take_length] at hzl
        go_wp2_with fail
        go_ret
        exact ⟨_, zs, rfl, HZ.out, by rw [HT.out]; omega, fun s => (HMZ.out s).trans (HFR.out s).symm, HB.out⟩
end Go.Proofs.YtpokelkneblafaaGreatDoor
