/- The applications of rules to tokens, for whatever function is called for each. -/
import Derived.Test.YtmhddlhlniajpaaTA
namespace Go.Proofs.Ytmhddlhlniajpaa
open Go.RowKit
abbrev FINT : TypeId := 81
/-- what is called for each application -/
def Visits (fid : FuncId) (caps : Array Value) (rs : List Rul) (ts : List ByteArray) (i j : Nat) (Inv : List App → World → Prop) : Prop :=
  ∀ (l : List App) (a : App) (m : List App) (w : World), appsR rs ts i j = l ++ a :: m → Inv l w → Calls Try.prog fid (#[.agg a.c] ++ caps) w fun e w' => e = .returned undef ∧ Inv (l ++ [a]) w' ∧ ∀ g cs, Blk w g 81 cs → Blk w' g 81 cs
def preB (rs : List Rul) (ts : List ByteArray) (i j : Nat) : Bool := (findR rs 2 (tokL ts i)).isSome && decide (i + 1 < j)
def postB (rs : List Rul) (ts : List ByteArray) (i j : Nat) : Bool := (findR rs 3 (tokL ts (j - 1))).isSome && decide (i + 1 < j)
def inB_ (rs : List Rul) (ts : List ByteArray) (j k : Nat) : Bool := (findR rs 1 (tokL ts k)).isSome && decide (k + 1 < j)
theorem findI_some {rs : List Rul} {kind : Int} {s : List UInt8} {r : Nat} (h : findR rs kind s = some r) : findI rs kind s = r := by unfold findI; rw [h]
theorem findI_none {rs : List Rul} {kind : Int} {s : List UInt8} (h : findR rs kind s = none) : findI rs kind s = -1 := by unfold findI; rw [h]
theorem pre_yes {rs : List Rul} {ts : List ByteArray} {i j : Nat} (h : preB rs ts i j = true) : ∃ r : Nat, findI rs 2 (tokL ts i) = r ∧ preA rs ts i j = [⟨r, i + 1, j, 0, 0, 1⟩] ∧ r < rs.length := by
  unfold preB at h
  rw [Bool.and_eq_true] at h
  obtain ⟨r, hr⟩ := Option.isSome_iff_exists.1 h.1
  refine ⟨r, findI_some hr, ?_, ?_⟩
  · unfold preA; rw [hr]; exact if_pos (of_decide_eq_true h.2)
  · obtain ⟨x, hx, _⟩ := find_some hr; exact (List.getElem?_eq_some_iff.1 hx).1
theorem pre_no {rs : List Rul} {ts : List ByteArray} {i j : Nat} (h : preB rs ts i j = false) : preA rs ts i j = [] := by
  unfold preB at h
  unfold preA
  cases hr : findR rs 2 (tokL ts i) with
  | none => rfl
  | some r =>
    rw [hr] at h
    exact if_neg (of_decide_eq_false (by simpa using h))
theorem post_yes {rs : List Rul} {ts : List ByteArray} {i j : Nat} (h : postB rs ts i j = true) : ∃ r : Nat, findI rs 3 (tokL ts (j - 1)) = r ∧ postA rs ts i j = [⟨r, i, j - 1, 0, 0, 1⟩] ∧ r < rs.length := by
  unfold postB at h
  rw [Bool.and_eq_true] at h
  obtain ⟨r, hr⟩ := Option.isSome_iff_exists.1 h.1
  refine ⟨r, findI_some hr, ?_, ?_⟩
  · unfold postA; rw [hr]; exact if_pos (of_decide_eq_true h.2)
  · obtain ⟨x, hx, _⟩ := find_some hr; exact (List.getElem?_eq_some_iff.1 hx).1
theorem post_no {rs : List Rul} {ts : List ByteArray} {i j : Nat} (h : postB rs ts i j = false) : postA rs ts i j = [] := by
  unfold postB at h
  unfold postA
  cases hr : findR rs 3 (tokL ts (j - 1)) with
  | none => rfl
  | some r =>
    rw [hr] at h
    exact if_neg (of_decide_eq_false (by simpa using h))
theorem in_yes {rs : List Rul} {ts : List ByteArray} {i j k : Nat} (h : inB_ rs ts j k = true) : ∃ r : Nat, findI rs 1 (tokL ts k) = r ∧ inA rs ts i j k = [⟨r, i, k, k + 1, j, 2⟩] ∧ r < rs.length := by
  unfold inB_ at h
  rw [Bool.and_eq_true] at h
  obtain ⟨r, hr⟩ := Option.isSome_iff_exists.1 h.1
  refine ⟨r, findI_some hr, ?_, ?_⟩
  · unfold inA; rw [hr]; exact if_pos (of_decide_eq_true h.2)
  · obtain ⟨x, hx, _⟩ := find_some hr; exact (List.getElem?_eq_some_iff.1 hx).1
theorem in_no {rs : List Rul} {ts : List ByteArray} {i j k : Nat} (h : inB_ rs ts j k = false) : inA rs ts i j k = [] := by
  unfold inB_ at h
  unfold inA
  cases hr : findR rs 1 (tokL ts k) with
  | none => rfl
  | some r =>
    rw [hr] at h
    exact if_neg (of_decide_eq_false (by simpa using h))
theorem find_test {rs : List Rul} {kind : Int} {s : List UInt8} : decide (0 ≤ findI rs kind s) = (findR rs kind s).isSome := by
  cases h : findR rs kind s with
  | none => rw [findI_none h]; rfl
  | some r => rw [findI_some h]; exact decide_eq_true (by omega)
def midL (rs : List Rul) (ts : List ByteArray) (i j k : Nat) : List App := preA rs ts i j ++ postA rs ts i j ++ (List.range' (i + 1) (k - (i + 1))).flatMap (midA rs ts i j)
theorem midL_succ {rs : List Rul} {ts : List ByteArray} {i j k : Nat} (h : i < k) : midL rs ts i j (k + 1) = midL rs ts i j k ++ (inA rs ts i j k ++ juxA rs i j k) := by
  unfold midL
  rw [show k + 1 - (i + 1) = (k - (i + 1)) + 1 by omega, List.range'_concat, List.flatMap_append, List.append_assoc (preA rs ts i j ++ postA rs ts i j)]
  congr 1
  rw [show i + 1 + 1 * (k - (i + 1)) = k by omega]
  simp [midA]
theorem midL_rest {rs : List Rul} {ts : List ByteArray} {i j k : Nat} (h : i < k) (hk : k < j) : appsR rs ts i j = midL rs ts i j k ++ (inA rs ts i j k ++ juxA rs i j k) ++ (List.range' (k + 1) (j - (k + 1))).flatMap (midA rs ts i j) := by
  rw [← midL_succ h]
  unfold appsR midL
  rw [List.append_assoc (preA rs ts i j ++ postA rs ts i j), ← List.flatMap_append, show k + 1 - (i + 1) = k - i by omega]
  congr 2
  rw [show List.range' (k + 1) (j - (k + 1)) = List.range' (i + 1 + 1 * (k - i)) (j - (k + 1)) by rw [show i + 1 + 1 * (k - i) = k + 1 by omega], List.range'_append]
  congr 1
  omega
set_option maxRecDepth 100000 in
set_option maxHeartbeats 1600000 in
theorem apps_any (fid : FuncId) (caps : Array Value) (F : Fin) (rs : List Rul) (ts : List ByteArray) (i j : Nat) (Inv : List App → World → Prop) (w : World) (hij : i < j) (hj : j ≤ ts.length) (hm : ts.length ≤ 1000000)
    (hF : ∀ l w, Inv l w → FinAt w F rs ts) (hK : ∀ l w w', Inv l w → Below w.heap.size w w' → Inv l w') (hV : Visits fid caps rs ts i j Inv) (h0 : Inv [] w) (hcf : ∀ args w, Sem.run Try.prog (callFunc fid args) w = .ok (.enter fid args) w) :
    Calls Try.prog 72 #[.agg (F.c rs.length ts.length (findI rs 4 [])), .int .i64 i, .int .i64 j, .func (.func fid) #[] caps] w fun e w' => e = .returned undef ∧ Inv (appsR rs ts i j) w' := by
  obtain ⟨R, cR, T, cT, I, cI, P, cP, Q, cQ⟩ := F
  have HV := Lib.hid hV
  have HK := Lib.hid hK
  have HF := Lib.hid hF
  have HI := Lib.hid (hK _ _ _ h0 (bel_alloc w (.cells #[.slice R rs.length cR, .slice T ts.length cT, .slice I ts.length cI, .slice P ts.length cP, .slice Q ts.length cQ, .int .i64 (findI rs 4 [])] 81)))
  have K0 := Lib.hid (Blk.new w 81 #[.slice R rs.length cR, .slice T ts.length cT, .slice I ts.length cI, .slice P ts.length cP, .slice Q ts.length cQ, .int .i64 (findI rs 4 [])])
  clear hV hK hF h0
  have hF0 := HF.out _ _ HI.out
  obtain ⟨gp, hp, cp⟩ := hF0.pre.num (finds_at (rs := rs) (kind := 2) (show i < ts.length by omega))
  obtain ⟨gq, hq, cq⟩ := hF0.post.num (finds_at (rs := rs) (kind := 3) (show j - 1 < ts.length by omega))
  obtain ⟨gi, hi, _⟩ := hF0.inf.num (finds_at (rs := rs) (kind := 1) (show i < ts.length by omega))
  dsimp only at hp hq hi
  subst hp hq hi
  clear hF0 cq
  have HP := Lib.hid (find_test (rs := rs) (kind := 2) (s := tokL ts i))
  have hil : (i : Int) < (ts.length : Int) := by omega
  go_enter Try.func72, Try.ntmps72
  go_upto_region 2 with (fail)
  generalize w.alloc (.cells _ 81) = w1 at *
  go_cut [24] (fun b wc => b = .bool (preB rs ts i j) ∧ wc = w1)
  case first =>
    cases hs : (findR rs 2 (tokL ts i)).isSome
    · have q0 := HP.out.trans hs
      have HB := Lib.hid (show preB rs ts i j = false by unfold preB; rw [hs]; rfl)
      clear hs cp
      generalize findI rs 2 (tokL ts i) = x at *
      go_wp2_with fail
      go_meet
      exact ⟨by rw [HB.out], rfl⟩
    · have q0 := HP.out.trans hs
      have HB := Lib.hid (show preB rs ts i j = decide (i + 1 < j) by unfold preB; rw [hs]; rfl)
      clear hs cp
      generalize findI rs 2 (tokL ts i) = x at *
      have HD := Lib.hid (show decide ((i : Int) + 1 < (j : Int)) = decide (i + 1 < j) from decide_eq_decide.2 (by omega))
      go_wp2_with fail
      go_meet
      exact ⟨by rw [HB.out, ← HD.out], rfl⟩
  case rest =>
    obtain ⟨rfl, hw⟩ := hcut
    subst hw
    go_upto_if 24 with (fail)
    go_cut [8] (fun _ wc => Hid (Inv (preA rs ts i j) wc) ∧ Hid (Blk wc w.heap.size 81 #[.slice R rs.length cR, .slice T ts.length cT, .slice (some ⟨gi, 0, none⟩) ts.length cI, .slice (some ⟨gp, 0, none⟩) ts.length cP, .slice (some ⟨gq, 0, none⟩) ts.length cQ, .int .i64 (findI rs 4 [])]))
    case first =>
      cases hb : preB rs ts i j
      · have HN := Lib.hid (pre_no hb)
        clear hb
        go_wp2_with fail
        go_meet
        exact ⟨by rw [HN.out]; exact HI, K0⟩
      · obtain ⟨r, hr, hA, hrl⟩ := pre_yes hb
        have HN := Lib.hid hA
        clear hb hA
        rw [hr]
        clear hr cp
        go_wp2_with fail
        have h := HV.out [] ⟨r, i + 1, j, 0, 0, 1⟩ (postA rs ts i j ++ (List.range' (i + 1) (j - (i + 1))).flatMap (midA rs ts i j)) wc (by unfold appsR; rw [HN.out, List.append_assoc]; rfl) HI.out
        refine h.mono ?_
        clear h
        rintro e w2 ⟨rfl, hi2, hk2⟩
        have HI := Lib.hid hi2
        have K0 := Lib.hid (hk2 _ _ K0.out)
        clear hi2 hk2
        go_wp2_with fail
        go_meet
        exact ⟨by rw [HN.out]; exact HI, K0⟩
    case rest =>
      clear HI K0 cp HP
      obtain ⟨HI, K0⟩ := hcut
      have hF0 := HF.out _ _ HI.out
      obtain ⟨gq', hq, cq⟩ := hF0.post.num (finds_at (rs := rs) (kind := 3) (show j - 1 < ts.length by omega))
      obtain rfl : gq = gq' := by simpa using hq
      clear hF0 hq
      have HP := Lib.hid (find_test (rs := rs) (kind := 3) (s := tokL ts (j - 1)))
      have hj1 : ((j - 1 : Nat) : Int) = (j : Int) - 1 := by omega
      have hj2 : (0 : Int) ≤ (j : Int) - 1 := by omega
      have hj3 : (j : Int) - 1 < (ts.length : Int) := by omega
      have hj4 : ((j : Int) - 1).toNat = j - 1 := by omega
      have c4 := K0.out.cell 4
      go_upto_region 5 with (fail)
      clear c4
      generalize hw2 : wc = w2 at *
      clear hw2 hj1 hj2 hj3 hj4
      go_cut [45] (fun b wc => b = .bool (postB rs ts i j) ∧ wc = w2)
      case first =>
        cases hs : (findR rs 3 (tokL ts (j - 1))).isSome
        · have q0 := HP.out.trans hs
          have HB := Lib.hid (show postB rs ts i j = false by unfold postB; rw [hs]; rfl)
          clear hs cq
          generalize findI rs 3 (tokL ts (j - 1)) = x at *
          go_wp2_with fail
          go_meet
          exact ⟨by rw [HB.out], rfl⟩
        · have q0 := HP.out.trans hs
          have HB := Lib.hid (show postB rs ts i j = decide (i + 1 < j) by unfold postB; rw [hs]; rfl)
          clear hs cq
          generalize findI rs 3 (tokL ts (j - 1)) = x at *
          have HD := Lib.hid (show decide ((i : Int) < (j : Int) - 1) = decide (i + 1 < j) from decide_eq_decide.2 (by omega))
          go_wp2_with fail
          go_meet
          exact ⟨by rw [HB.out, ← HD.out], rfl⟩
      case rest =>
        obtain ⟨rfl, hw⟩ := hcut
        subst hw
        go_upto_if 45 with (fail)
        go_cut [9] (fun _ wc => Hid (Inv (preA rs ts i j ++ postA rs ts i j) wc) ∧ Hid (Blk wc w.heap.size 81 #[.slice R rs.length cR, .slice T ts.length cT, .slice (some ⟨gi, 0, none⟩) ts.length cI, .slice (some ⟨gp, 0, none⟩) ts.length cP, .slice (some ⟨gq, 0, none⟩) ts.length cQ, .int .i64 (findI rs 4 [])]))
        case first =>
          cases hb : postB rs ts i j
          · have HN := Lib.hid (post_no hb)
            clear hb
            go_wp2_with fail
            go_meet
            exact ⟨by rw [HN.out, List.append_nil]; exact HI, K0⟩
          · obtain ⟨r, hr, hA, hrl⟩ := post_yes hb
            have HN := Lib.hid hA
            clear hb hA
            rw [hr]
            clear hr cq
            go_wp2_with fail
            have h := HV.out (preA rs ts i j) ⟨r, i, j - 1, 0, 0, 1⟩ ((List.range' (i + 1) (j - (i + 1))).flatMap (midA rs ts i j)) wc (by unfold appsR; rw [HN.out, List.append_assoc]; rfl) HI.out
            rw [show App.c ⟨r, i, j - 1, 0, 0, 1⟩ = #[.int .i64 r, .int .i64 i, .int .i64 ((j : Int) - 1), .int .i64 0, .int .i64 0, .int .i64 1] by show #[_, _, Value.int .i64 ((j - 1 : Nat) : Int), _, _, _] = _; rw [show ((j - 1 : Nat) : Int) = (j : Int) - 1 by omega]; rfl] at h
            refine h.mono ?_
            clear h
            rintro e w3 ⟨rfl, hi2, hk2⟩
            have HI := Lib.hid hi2
            have K0 := Lib.hid (hk2 _ _ K0.out)
            clear hi2 hk2
            go_wp2_with fail
            go_meet
            exact ⟨by rw [HN.out]; exact HI, K0⟩
        case rest =>
          clear HI K0 cq HP
          obtain ⟨HI, K0⟩ := hcut
          have HI : Hid (Inv (midL rs ts i j (i + 1)) wc) := by
            rw [show midL rs ts i j (i + 1) = preA rs ts i j ++ postA rs ts i j by unfold midL; rw [Nat.sub_self]; exact List.append_nil _]
            exact HI
          go_wp2_with fail
          go_loopw [10] (fun k wr => ∃ n : Nat, i < n ∧ n ≤ j ∧ k = .int .i64 n ∧ Hid (Inv (midL rs ts i j n) wr) ∧ Hid (Blk wr w.heap.size 81 #[.slice R rs.length cR, .slice T ts.length cT, .slice (some ⟨gi, 0, none⟩) ts.length cI, .slice (some ⟨gp, 0, none⟩) ts.length cP, .slice (some ⟨gq, 0, none⟩) ts.length cQ, .int .i64 (findI rs 4 [])])) (fun k _ => j - (intOf k).toNat)
          case atStart => exact ⟨i + 1, by omega, by omega, by go_num, HI, K0⟩
          case round =>
            clear HI K0
            obtain ⟨k, hik, hkj, rfl, HI, K0⟩ := hrel
            by_cases hlt : k < j
            · have HR := Lib.hid (midL_rest (rs := rs) (ts := ts) hik hlt)
              have HSC := Lib.hid (midL_succ (rs := rs) (ts := ts) (j := j) hik)
              have hF0 := HF.out _ _ HI.out
              obtain ⟨gi', hi, ci⟩ := hF0.inf.num (finds_at (rs := rs) (kind := 1) (show k < ts.length by omega))
              obtain rfl : gi = gi' := by simpa using hi
              clear hF0 hi
              have HP := Lib.hid (find_test (rs := rs) (kind := 1) (s := tokL ts k))
              have c2 := K0.out.cell 2
              have hkn : (k : Int) < (ts.length : Int) := by omega
              go_upto_region 11 with (fail)
              clear c2 hkn
              go_cut [72] (fun b wc => b = .bool (inB_ rs ts j k) ∧ wc = wr)
              case first =>
                cases hs : (findR rs 1 (tokL ts k)).isSome
                · have q0 := HP.out.trans hs
                  have HB := Lib.hid (show inB_ rs ts j k = false by unfold inB_; rw [hs]; rfl)
                  clear hs ci
                  generalize findI rs 1 (tokL ts k) = x at *
                  go_wp2_with fail
                  go_meet
                  exact ⟨by rw [HB.out], rfl⟩
                · have q0 := HP.out.trans hs
                  have HB := Lib.hid (show inB_ rs ts j k = decide (k + 1 < j) by unfold inB_; rw [hs]; rfl)
                  clear hs ci
                  generalize findI rs 1 (tokL ts k) = x at *
                  have HD := Lib.hid (show decide ((k : Int) < (j : Int) - 1) = decide (k + 1 < j) from decide_eq_decide.2 (by omega))
                  go_wp2_with fail
                  go_meet
                  exact ⟨by rw [HB.out, ← HD.out], rfl⟩
              case rest =>
                obtain ⟨rfl, hw⟩ := hcut
                subst hw
                go_upto_if 72 with (fail)
                go_cut [11] (fun _ wc => Hid (Inv (midL rs ts i j k ++ inA rs ts i j k) wc) ∧ Hid (Blk wc w.heap.size 81 #[.slice R rs.length cR, .slice T ts.length cT, .slice (some ⟨gi, 0, none⟩) ts.length cI, .slice (some ⟨gp, 0, none⟩) ts.length cP, .slice (some ⟨gq, 0, none⟩) ts.length cQ, .int .i64 (findI rs 4 [])]))
                case first =>
                  cases hb : inB_ rs ts j k
                  · have HN := Lib.hid (in_no (i := i) hb)
                    clear hb
                    go_wp2_with fail
                    go_meet
                    exact ⟨by rw [HN.out, List.append_nil]; exact HI, K0⟩
                  · obtain ⟨r, hr, hA, hrl⟩ := in_yes (i := i) hb
                    have HN := Lib.hid hA
                    clear hb hA
                    rw [hr]
                    clear hr ci
                    go_wp2_with fail
                    have h := HV.out (midL rs ts i j k) ⟨r, i, k, k + 1, j, 2⟩ (juxA rs i j k ++ (List.range' (k + 1) (j - (k + 1))).flatMap (midA rs ts i j)) wc (by rw [HR.out, HN.out]; simp) HI.out
                    refine h.mono ?_
                    clear h
                    rintro e w3 ⟨rfl, hi2, hk2⟩
                    have HI := Lib.hid hi2
                    have K0 := Lib.hid (hk2 _ _ K0.out)
                    clear hi2 hk2
                    go_wp2_with fail
                    go_meet
                    exact ⟨by rw [HN.out]; exact HI, K0⟩
                case rest =>
                  clear HI K0 ci HP
                  obtain ⟨HI, K0⟩ := hcut
                  have c5 := K0.out.cell 5
                  cases hj4 : findR rs 4 [] with
                  | none =>
                    have HN := Lib.hid (show juxA rs i j k = [] by unfold juxA; rw [hj4])
                    have hx := findI_none hj4
                    clear hj4
                    rw [hx] at c5
                    clear hx
                    have NI := Lib.hid (show Inv (midL rs ts i j (k + 1)) wc by rw [HSC.out, HN.out, List.append_nil]; exact HI.out)
                    clear HI
                    go_wp2_with fail
                    go_roundw
                    case rel => exact ⟨k + 1, by omega, by omega, by go_num, NI, K0⟩
                    case measure => simp [intOf]; omega
                  | some r =>
                    have HN := Lib.hid (show juxA rs i j k = [⟨r, i, k, k, j, 2⟩] by unfold juxA; rw [hj4])
                    have hx := findI_some hj4
                    clear hj4
                    rw [hx] at c5
                    clear hx
                    go_wp2_with fail
                    have h := HV.out (midL rs ts i j k ++ inA rs ts i j k) ⟨r, i, k, k, j, 2⟩ ((List.range' (k + 1) (j - (k + 1))).flatMap (midA rs ts i j)) wc (by rw [HR.out, HN.out]; simp) HI.out
                    refine h.mono ?_
                    clear h c5
                    rintro e w3 ⟨rfl, hi2, hk2⟩
                    have NI := Lib.hid (show Inv (midL rs ts i j (k + 1)) w3 by rw [HSC.out, HN.out, ← List.append_assoc]; exact hi2)
                    have K0 := Lib.hid (hk2 _ _ K0.out)
                    clear hi2 hk2 HI
                    go_wp2_with fail
                    go_roundw
                    case rel => exact ⟨k + 1, by omega, by omega, by go_num, NI, K0⟩
                    case measure => simp [intOf]; omega
            · obtain rfl : k = j := by omega
              go_wp2_with fail
              go_end0
              exact ⟨rfl, by rw [show appsR rs ts i k = midL rs ts i k k from rfl]; exact HI.out⟩
end Go.Proofs.Ytmhddlhlniajpaa
