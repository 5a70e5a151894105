/- Text of the reference. -/
import Derived.Test.YtpokelkneblafaaGreatDoorRP
import Derived.Test.YtpokelkneblafaaGreatDoorTX
namespace Go.Proofs.YtpokelkneblafaaGreatDoor
open Go.RowKit
theorem join_len (l : List (List UInt8)) : (Lib.join l [32]).length ≤ szP l := by
  cases l with
  | nil => simp [Lib.join]
  | cons a r =>
    rw [join_ls, List.length_append]
    have : (lsP r).length = szP r := by
      induction r with
      | nil => rfl
      | cons b r ih => rw [lsP_cons, List.length_cons, List.length_append, ih, szP_cons]; omega
    rw [this, szP_cons]
    omega
/-- the text ahead of a part, with the space behind it -/
def jnS (ps : List (List UInt8)) (j : Nat) : List UInt8 := if j = 0 then [] else Lib.join (ps.take j) [32] ++ [32]
theorem jn_next {ps : List (List UInt8)} {j : Nat} {p : List UInt8} (h : ps[j]? = some p) : Lib.join (ps.take (j + 1)) [32] = jnS ps j ++ p := by
  have hl : j < ps.length := (List.getElem?_eq_some_iff.1 h).1
  unfold jnS
  rw [List.take_add_one, h, Option.toList]
  by_cases hj : j = 0
  · subst hj; rw [if_pos rfl]; simp [Lib.join]
  · have hne : ps.take j ≠ [] := fun e => by
      have := congrArg List.length e
      rw [List.length_take, List.length_nil] at this
      omega
    rw [if_neg hj, join_snoc hne]
    simp
set_option maxRecDepth 100000 in
set_option maxHeartbeats 4000000 in
theorem rtext_any (t : Trm) (c : Array Value) (w : World) (hn : cntM t ≤ 1000) (hM : MAt w t c) : Calls Tryz.prog 18 #[.agg c] w fun e w' => e = .returned (textV t) ∧ Below w.heap.size w w' := by
  have hba := bel_alloc w (.cells c 25)
  have HMW := Lib.hid (hM.keep hba)
  obtain ⟨A, cap, hcc, -⟩ := hM.form
  subst hcc
  have K0 := Lib.hid (Blk.new w 25 (trmC t.kind t.nam t.vr A t.args.length cap t.form))
  have HB := Lib.hid hba
  have HM := Lib.hid hM
  clear hba hM
  have HN := Lib.hid hn
  have HVC := Lib.hid (fun w hM => rvalid_any t (trmC t.kind t.nam t.vr A t.args.length cap t.form) w (by omega) hM)
  have HPC := Lib.hid (fun (hf : formM t = true) w hM => rparts_any 1000 t (trmC t.kind t.nam t.vr A t.args.length cap t.form) w hn (by omega) hf hM)
  have HSZ := Lib.hid (fun h => sz_valid (t := t) h)
  have HT := Lib.hid (show textM t = Lib.join (prtM t) [32] from rfl)
  have HVF := Lib.hid (show validM t = true → formM t = true from fun h => by unfold validM at h; rw [Bool.and_eq_true] at h; exact h.1)
  have HV0 := Lib.hid (show validM t = false → textV t = .tuple #[.string ⟨#[]⟩, .int .i64 1] from fun hval => by unfold textV; rw [if_neg (by rw [hval]; simp)])
  have HV1 := Lib.hid (show validM t = true → textV t = .tuple #[.string (bys (textM t)), .int .i64 0] from fun hval => by unfold textV; rw [if_pos hval])
  clear hn
  generalize t.kind = k, t.nam = a, t.vr = v, t.args.length = n, t.form = f at *
  go_enter Tryz.func18, Tryz.ntmps18
  go_upto_region 1 with (fail)
  generalize w.alloc (.cells #[.int .i64 k, .string a, .string v, .slice A n cap, .string f] 25) = w1 at *
  have c0 := fun i => K0.out.cell i
  go_wp2_with fail
  refine (HVC.out w1 HMW.out).mono ?_
  rintro e w2 ⟨rfl, hb⟩
  replace K0 := Lib.hid (keep hb K0.out)
  replace HMW := Lib.hid (HMW.out.keep hb)
  replace HB := Lib.hid (HB.out.trans (hb.mono HB.out.size))
  clear hb c0
  cases hv : validM t
  · replace HV0 := Lib.hid (HV0.out hv)
    go_wp2_with fail
    exact bodyPost_ret (v := .tuple #[.string ⟨#[]⟩, .int .i64 1]) (by simp [results, Tryz.results18, go_sem]) rfl ⟨by rw [HV0.out], HB.out⟩
  · replace HV1 := Lib.hid (HV1.out hv)
    replace HPC := Lib.hid (HPC.out (HVF.out hv))
    replace HSZ := Lib.hid (HSZ.out hv)
    clear hv HV0
    have c0 := fun i => K0.out.cell i
    go_wp2_with fail
    refine (HPC.out w2 HMW.out).mono ?_
    rintro e w3 ⟨u, rfl, ho, hb⟩
    replace HB := Lib.hid (HB.out.trans (hb.mono HB.out.size))
    obtain ⟨A5, c5, rfl, hl5, hc5, hA5⟩ := ho.form
    have HA5 := Lib.hid hA5
    clear ho hb hA5 c0
    generalize prtM t = ps at *
    go_wp2_with fail
    go_loop [4, 6] (fun s i => ∃ j : Nat, j ≤ ps.length ∧ i = .int .i64 j ∧ s = .string (bys (Lib.join (ps.take j) [32]))) (fun _ i => ps.length - (intOf i).toNat)
    case atStart => exact ⟨0, by omega, rfl, rfl⟩
    case round =>
      obtain ⟨j, hj, rfl, rfl⟩ := hrel
      have HJL := Lib.hid (show (bys (Lib.join (ps.take j) [32])).size ≤ 1000000 by
        rw [bys_len]
        have h1 := join_len (ps.take j)
        have h2 := szP_take ps j
        have h3 := HSZ.out
        omega)
      by_cases hlt : j < ps.length
      · obtain ⟨p, hp⟩ : ∃ p, ps[j]? = some p := ⟨_, List.getElem?_eq_getElem hlt⟩
        obtain ⟨ad, rfl, had, d0⟩ := HA5.out j p hp
        have HNX := Lib.hid (jn_next hp)
        have HPS := Lib.hid (show (bys p).size ≤ 1000000 by
          rw [bys_len]
          have h1 := szP_mem hp
          have h3 := HSZ.out
          omega)
        have HJS := Lib.hid (show (bys (jnS ps j)).size ≤ 1000001 by
          rw [bys_len]
          have h1 := HJL.out
          rw [bys_len] at h1
          unfold jnS
          split
          · simp
          · rw [List.length_append, List.length_singleton]; omega)
        clear hp
        go_upto_if 19 with (fail)
        go_cut [4] (fun vv wc => vv = .string (bys (jnS ps j)) ∧ wc = w3)
        case first =>
          have hjl := HJL.out
          by_cases hj0 : j = 0
          · have hg : ¬ (0 : Int) < (j : Int) := by omega
            have HE : Hid (bys (jnS ps j) = bys (Lib.join (ps.take j) [32])) := Lib.hid (by subst hj0; rfl)
            clear hj0
            go_wp2_with fail
            go_meet
            exact ⟨by rw [HE.out], rfl⟩
          · have hg : (0 : Int) < (j : Int) := by omega
            have HE : Hid (bys (jnS ps j) = bys (Lib.join (ps.take j) [32]) ++ ⟨#[32]⟩) := Lib.hid (by unfold jnS; rw [if_neg hj0, ← bys_app]; rfl)
            clear hj0
            generalize bys (Lib.join (ps.take j) [32]) = sj at *
            have hs1 : (⟨#[32]⟩ : ByteArray).size = 1 := rfl
            go_wp2_with fail
            go_meet
            exact ⟨by rw [HE.out], rfl⟩
        case rest =>
          obtain ⟨rfl, rfl⟩ := hcut
          have hjl := HJS.out
          have hpl := HPS.out
          have HEQ := Lib.hid (show bys (Lib.join (ps.take (j + 1)) [32]) = bys (jnS ps j) ++ bys p by rw [HNX.out, bys_app])
          clear HNX HJL
          generalize bys (jnS ps j) = sj at *
          generalize bys p = sp at *
          go_wp2_with fail
          go_round
          case rel => exact ⟨j + 1, by omega, by go_num, by rw [HEQ.out]⟩
          case measure => simp [intOf]; omega
      · obtain rfl : j = ps.length := by omega
        rw [List.take_of_length_le (Nat.le_refl _)] at HJL ⊢
        go_wp2_with fail
        exact bodyPost_ret (v := .tuple #[.string (bys (Lib.join ps [32])), .int .i64 0]) (by simp [results, Tryz.results18, go_sem] <;> rfl) rfl ⟨by rw [HV1.out, HT.out], HB.out⟩
end Go.Proofs.YtpokelkneblafaaGreatDoor
