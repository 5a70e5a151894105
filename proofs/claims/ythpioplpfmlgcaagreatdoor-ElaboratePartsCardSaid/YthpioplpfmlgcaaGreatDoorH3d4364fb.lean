/- The walk of ElaborateParts. -/
import Derived.Test.YthpioplpfmlgcaaGreatDoorHd52c70be
import Derived.Test.YthpioplpfmlgcaaGreatDoorHe7c83c61
import Derived.BigQuiet
import Derived.Deep.DeepCutAuto
import Derived.Deep.CutBlock
namespace Go.Proofs.YthpioplpfmlgcaaGreatDoor.El
open Go.Proofs.YthpioplpfmlgcaaGreatDoor.At
open Go.Proofs.YthpioplpfmlgcaaGreatDoor.Ch
open Go.Proofs.YthpioplpfmlgcaaGreatDoor.Sp
open Go.Proofs.YthpioplpfmlgcaaGreatDoor.Sy
open Go.RowKit
theorem kids_one {w : World} {g : Nat} {t : Tre} {c : Array Value} (h : Blk w g 25 c) (hN : NodAt w t c) : KidsAt w (some ⟨g, 0, none⟩) [t] := fun i x hi => by
  cases i with
  | succ i => simp at hi
  | zero =>
    obtain rfl : t = x := by simpa using hi
    refine ⟨_, rfl, h.lt, c, hN, fun j hj => ?_⟩
    rw [← h.cell j]
    congr 1
    simp [Addr.add]
    intro h; omega
theorem slot_valid {t d : Tre} (h : validT (rowT [t]) = true) (hd : d ∈ t.kids) (hk : t.kind ≠ 1) : validT d = true := by
  unfold validT rowT at h
  simp only [Bool.and_eq_true, decide_eq_true_eq] at h
  obtain ⟨_, hf, hc, hdep⟩ := h
  rw [formT, Bool.and_eq_true] at hf
  have hft := (formL_at hf.2 t List.mem_cons_self).1
  have hdk : formT d = true ∧ d.kind = 1 := by
    obtain ⟨k, a, c, ks⟩ := t
    rw [formT, Bool.and_eq_true] at hft
    obtain ⟨h1, h2⟩ := formL_at hft.2 d hd
    refine ⟨h1, ?_⟩
    unfold badPair at h2
    rw [show decide (k = 1) = false from decide_eq_false hk] at h2
    by_cases e : d.kind = 1
    · exact e
    · rw [decide_eq_false e] at h2; cases h2
  have hcd := mem_count hd
  have hct := count_kids t
  rw [countT, countL, countL] at hc
  have hdd : depthT d ≤ depthL t.kids := by
    have key : ∀ ks : List Tre, d ∈ ks → depthT d ≤ depthL ks := by
      intro ks
      induction ks with
      | nil => intro h; cases h
      | cons x ks ih =>
        intro h
        rw [depthL]
        rcases List.mem_cons.1 h with rfl | h
        · omega
        · have := ih h; omega
    exact key _ hd
  have hdt : depthT t = depthL t.kids + 1 := by obtain ⟨k, a, c, ks⟩ := t; rw [depthT]; rfl
  rw [depthT, depthL, depthL] at hdep
  unfold validT
  simp only [Bool.and_eq_true, decide_eq_true_eq]
  exact ⟨hdk.2, hdk.1, by omega, by omega⟩
theorem tree_slot {rs : List Rul} {f : Nat} {d : Tre} (hv : validB rs = true) (hd : validT d = true) (hc : countL d.kids ≤ 500) : treeF rs f d = listM rs f d.kids [] 0 := by
  unfold treeF
  rw [hv, hd, if_pos (by rfl)]
  cases h : listM rs f d.kids [] 0 with
  | bad e p => rfl
  | ok t =>
    dsimp only
    rw [if_pos (list_valid hv (valid_parts hd).2.2.2 hc h)]
/-- two numbers that a call has laid -/
theorem own_two (w : World) (a b : Int) : (w.alloc (.cells #[.int .i64 a, .int .i64 b] 3)).ownsRow w.heap.size 3 1 (.slice (some ⟨w.heap.size, 0, none⟩) 2 2) 2 (ints [a, b]) :=
  ⟨rfl, .inr ⟨w.heap.size, 2, #[.int .i64 a, .int .i64 b], rfl, Nat.le_refl _, Blk.new w _ _, Nat.le_refl _, by decide, rfl, rfl⟩⟩
theorem _root_.Go.Proofs.YthpioplpfmlgcaaGreatDoor.Sp.TmsAt.args {ok : Nat → Prop} {w : World} {A : Option Addr} {us : List Trm} (h : TmsAt ok w A us) : ArgsAt w A us := fun i t hi => by
  obtain ⟨ad, h1, h2, _, c, h3, h4⟩ := h i t hi
  exact ⟨ad, h1, h2, c, h3.mat, h4⟩
theorem wpList_append_any_g {P : Program} {w : World} {ops : Array Oper} {rest : List Oper} {o : Oper} {a : Act} {Q : Exit → Act → World → Prop} (hgd : Region.wanted o (yielded ops a.tmps) = true) (s x : Operand) (t : TypeId)
    (ho : o.op = .call { callee := .builtin .append, args := #[s, x], argTypes := #[t, t] })
    (base : Nat) (e : TypeId) (i : TypeInfo) (z : Value) (size bytes : Nat) (ht : P.underlying t = some (.slice e)) (hi : P.info? e = some i) (hz : i.zero = some z)
    (hsize : i.size = size) (hby : i.bytes = bytes) (hzs : z.cells.size = size) (hsz : 0 < size)
    (v : Value) (n : Nat) (xs : List Value) (hs : a.eval s = v) (hown : w.ownsRow base e size v n xs)
    (B : Nat) (A : Option Addr) (m c : Nat) (news : List Value) (hx : a.eval x = .slice A m c) (hr : Reads w B size A m news) (h1 : ∀ u ∈ news, u.oneCell' = true)
    (h63 : n + m ≤ maxLen) (hbytes : (n + m) * bytes ≤ 140737488355328) (hbase : base ≤ w.heap.size)
    (h : ∀ v' w', w'.ownsRow base e size v' (n + m) (xs ++ news) → w.grownBy w' v.ownBlock → (v'.ownBlock = v.ownBlock ∨ v'.ownBlock = some w.heap.size) → wpList P ops Q rest (a.put o.dst v') w') : wpList P ops Q (o :: rest) a w :=
  wpList_wanted hgd fun _ hK => wp_append_any w s x t ho base e i z size bytes ht hi hz hsize hby hzs hsz v n xs hs hown B A m c news hx hr h1 h63 hbytes hbase fun v' w' h2 h3 h4 => hK _ _ (h v' w' h2 h3 h4)
theorem PathAt.lt {w : World} {A : Option Addr} {p : List Int} (h : PathAt w A p) : ∀ ad, A = some ad → 0 < p.length → ad.block < w.heap.size := fun ad h1 h2 => by
  obtain ⟨ad', h3, h4, _⟩ := h.2 h2
  rw [h1] at h3
  rw [Option.some.inj h3]
  exact h4
theorem eqm_self (t : Trm) : eqM t t = true := eq_self t
set_option maxRecDepth 100000 in
set_option maxHeartbeats 8000000 in
theorem parts_walk (A : Option Addr) (cap : Nat) (rs : List Rul) (t : Tre) (c : Array Value) (w : World) (hR : RulsAt w A rs) (hrc : rs.length ≤ cap) (hcc : cap ≤ 9223372036854775807) (hN : NodAt w t c) : Calls Tryz.prog 5 #[.slice A rs.length cap, .agg c] w fun e w' => e = .returned (.bool true) ∧ Below w.heap.size w w' := by
  obtain ⟨A2, cap2, rfl, hsz, hl2, hc2, hk⟩ := hN.form
  have hba := bel_alloc w (.cells #[.int .i64 t.kind, .string t.text, .int .i64 t.cols, .slice A2 t.kids.length cap2] 25)
  have HB := Lib.hid hba
  have K0 := Lib.hid (Blk.new w 25 #[.int .i64 t.kind, .string t.text, .int .i64 t.cols, .slice A2 t.kids.length cap2])
  have HR := Lib.hid hR
  have HK := Lib.hid hk
  have HNN := Lib.hid hN
  clear hR hN hk hsz hba
  go_enter Tryz.func5, Tryz.ntmps5
  go_upto_region 1 with (fail)
  generalize w.alloc (.cells #[.int .i64 t.kind, .string t.text, .int .i64 t.cols, .slice A2 t.kids.length cap2] 25) = w1 at *
  go_wp2_with fail
  refine (awake_any w1).mono ?_
  rintro e w2 ⟨rfl, hb⟩
  replace HB := Lib.hid (HB.out.trans (hb.mono HB.out.size))
  replace K0 := Lib.hid (keep hb K0.out)
  clear hb
  have n0 := K0.out.cell 0
  have n1 := K0.out.cell 1
  have n2 := K0.out.cell 2
  have n3 := K0.out.cell 3
  go_wp2_with fail
  have hba := bel_alloc w2 (.cells #[.int .i64 t.kind, .string t.text, .int .i64 t.cols, .slice A2 t.kids.length cap2] 25)
  have K4 := Lib.hid (Blk.new w2 25 #[.int .i64 t.kind, .string t.text, .int .i64 t.cols, .slice A2 t.kids.length cap2])
  replace HB := Lib.hid (HB.out.trans (hba.mono HB.out.size))
  replace K0 := Lib.hid (keep hba K0.out)
  clear hba n0 n1 n2 n3
  generalize w2.alloc (.cells #[.int .i64 t.kind, .string t.text, .int .i64 t.cols, .slice A2 t.kids.length cap2] 25) = w3 at *
  refine (row_any (some ⟨w2.heap.size, 0, none⟩) 1 1 w3).mono ?_
  rintro e w4 ⟨rfl, hb⟩
  replace HB := Lib.hid (HB.out.trans (hb.mono HB.out.size))
  replace K0 := Lib.hid (keep hb K0.out)
  replace K4 := Lib.hid (keep hb K4.out)
  clear hb
  go_wp2_with fail
  have hba := bel_alloc w4 (.cells #[.int .i64 1, .string ⟨#[]⟩, .int .i64 0, .slice (some ⟨w2.heap.size, 0, none⟩) 1 1] 25)
  have K5 := Lib.hid (Blk.new w4 25 #[.int .i64 1, .string ⟨#[]⟩, .int .i64 0, .slice (some ⟨w2.heap.size, 0, none⟩) 1 1])
  replace HB := Lib.hid (HB.out.trans (hba.mono HB.out.size))
  replace K0 := Lib.hid (keep hba K0.out)
  replace K4 := Lib.hid (keep hba K4.out)
  clear hba
  generalize w4.alloc (.cells #[.int .i64 1, .string ⟨#[]⟩, .int .i64 0, .slice (some ⟨w2.heap.size, 0, none⟩) 1 1] 25) = w5 at *
  generalize w4.heap.size = n5 at *
  have HK1T := Lib.hid (show KidsAt w5 (some ⟨w2.heap.size, 0, none⟩) [t] from kids_one K4.out (HNN.out.keep HB.out))
  generalize w2.heap.size = g4 at *
  have HROW := Lib.hid (show NodAt w5 (rowT [t]) #[.int .i64 1, .string ⟨#[]⟩, .int .i64 0, .slice (some ⟨g4, 0, none⟩) 1 1] from NodAt.of (ks := [t]) (by decide) (Nat.le_refl _) (by decide) HK1T.out)
  clear K4
  refine (short40_any A cap rs w5 (HR.out.keep HB.out) (by omega)).mono ?_
  rintro e w6 ⟨rfl, rfl⟩
  cases hs : short40 rs with
  | false =>
    clear hs
    go_wp2_with fail
    exact bodyPost_ret (v := .bool true) (by simp [results, Tryz.results5, go_sem]) rfl ⟨rfl, HB.out⟩
  | true =>
    have HN := Lib.hid (short40_of hs)
    clear hs
    have n0 := K5.out.cell 0
    have n1 := K5.out.cell 1
    have n2 := K5.out.cell 2
    have n3 := K5.out.cell 3
    go_wp2_with fail
    refine (small_any (rowT [t]) _ 60 w5 HROW.out (by decide) (by decide)).mono ?_
    rintro e w6 ⟨rfl, hb⟩
    replace HB := Lib.hid (HB.out.trans (hb.mono HB.out.size))
    replace K0 := Lib.hid (keep hb K0.out)
    replace K5 := Lib.hid (keep hb K5.out)
    replace HROW := Lib.hid (HROW.out.keep hb)
    replace HK1T := Lib.hid (HK1T.out.keep hb)
    clear hb n0 n1 n2 n3
    cases hs : smallB (rowT [t]) 60 with
    | false =>
      clear hs
      go_wp2_with fail
      exact bodyPost_ret (v := .bool true) (by simp [results, Tryz.results5, go_sem]) rfl ⟨rfl, HB.out⟩
    | true =>
      have HC60 := Lib.hid (show countT t ≤ 59 by have h1 := (small_of (by decide) hs).1; rw [rowT, countT, countL, countL] at h1; omega)
      clear hs
      have n0 := K5.out.cell 0
      have n1 := K5.out.cell 1
      have n2 := K5.out.cell 2
      have n3 := K5.out.cell 3
      go_wp2_with fail
      refine (At.rvalid_any (rowT [t]) _ w6 (by have := HC60.out; rw [rowT, countT, countL, countL]; omega) HROW.out).mono ?_
      rintro e w7 ⟨rfl, hb⟩
      replace HB := Lib.hid (HB.out.trans (hb.mono HB.out.size))
      replace K0 := Lib.hid (keep hb K0.out)
      replace K5 := Lib.hid (keep hb K5.out)
      replace HROW := Lib.hid (HROW.out.keep hb)
      replace HK1T := Lib.hid (HK1T.out.keep hb)
      clear hb n0 n1 n2 n3
      cases hs : validT (rowT [t]) with
      | false =>
        clear hs
        go_wp2_with fail
        exact bodyPost_ret (v := .bool true) (by simp [results, Tryz.results5, go_sem]) rfl ⟨rfl, HB.out⟩
      | true =>
        have HVT := Lib.hid hs
        clear hs
        go_wp2_with fail
        refine (Go.Proofs.YthpioplpfmlgcaaGreatDoor.rvalid_any A cap rs w7 (HR.out.keep HB.out) (by have := HN.out; omega)).mono ?_
        rintro e w8 ⟨rfl, hb⟩
        replace HB := Lib.hid (HB.out.trans (hb.mono HB.out.size))
        replace K0 := Lib.hid (keep hb K0.out)
        replace K5 := Lib.hid (keep hb K5.out)
        replace HROW := Lib.hid (HROW.out.keep hb)
        replace HK1T := Lib.hid (HK1T.out.keep hb)
        clear hb
        cases hs : validB rs with
        | false =>
          clear hs
          go_wp2_with fail
          exact bodyPost_ret (v := .bool true) (by simp [results, Tryz.results5, go_sem]) rfl ⟨rfl, HB.out⟩
        | true =>
          have HV := Lib.hid hs
          clear hs
          have k3 := K0.out.cell 3
          by_cases hk0 : t.kids.length = 0
          · have q0 : ((t.kids.length : Int) == 0) = true := by rw [beq_iff_eq]; omega
            clear hk0
            go_wp2_with fail
            exact bodyPost_ret (v := .bool true) (by simp [results, Tryz.results5, go_sem]) rfl ⟨rfl, HB.out⟩
          have q0 : ((t.kids.length : Int) == 0) = false := by rw [beq_eq_false_iff_ne]; omega
          have HKN := Lib.hid (show t.kids ≠ [] from fun e => hk0 (by rw [e]; rfl))
          clear hk0
          have n3 := K5.out.cell 3
          go_wp2_with fail
          refine (rtoks_any A (some ⟨g4, 0, none⟩) cap 1 rs [t] w8 (HR.out.keep HB.out) (by have := HN.out; omega) HK1T.out (Nat.le_refl _) (by decide) (by simp) (by have := HC60.out; rw [countL, countL]; omega)).mono ?_
          rintro e w9 ⟨h1, hb⟩
          replace HB := Lib.hid (HB.out.trans (hb.mono HB.out.size))
          replace K0 := Lib.hid (keep hb K0.out)
          replace K5 := Lib.hid (keep hb K5.out)
          replace HROW := Lib.hid (HROW.out.keep hb)
          clear hb k3 n3 HK1T q0
          rw [if_pos (by rw [HV.out, HVT.out]; rfl)] at h1
          cases htk : toksN rs [t] with
          | inr ib =>
            rw [htk] at h1
            subst h1
            clear htk
            go_wp2_with fail
            exact bodyPost_ret (v := .bool true) (by simp [results, Tryz.results5, go_sem]) rfl ⟨rfl, HB.out⟩
          | inl ts =>
            rw [htk] at h1
            obtain ⟨v, rfl, ho⟩ := h1
            obtain ⟨tk, htk1⟩ : ∃ tk, ts = [tk] := List.length_eq_one_iff.1 (toksN_len htk)
            subst htk1
            obtain ⟨A7, c7, rfl⟩ := ho.len
            obtain ⟨g7, rfl, _, ct⟩ := ho.get (q := 0) (t := tk) rfl
            have HTKN := Lib.hid htk
            clear htk ho
            by_cases h35 : tk.data.toList = [35]
            case neg =>
              have q35 : (tk.toList == [35]) = false := by rw [ByteArray.toList_eq]; exact beq_eq_false_iff_ne.2 h35
              clear h35
              go_wp2_with fail
              exact bodyPost_ret (v := .bool true) (by simp [results, Tryz.results5, go_sem]) rfl ⟨rfl, HB.out⟩
            have q35 : (tk.toList == [35]) = true := by rw [ByteArray.toList_eq, h35]; rfl
            have HTH := Lib.hid (show toksN rs [t] = .inl [hashS] by
              rw [HTKN.out]
              have : tk = hashS := ByteArray.ext (Array.toList_inj.1 h35)
              rw [this])
            clear h35
            have n0 := K5.out.cell 0
            have n1 := K5.out.cell 1
            have n2 := K5.out.cell 2
            have n3 := K5.out.cell 3
            go_wp2_with fail
            refine (tree_any A cap rs 102 (rowT [t]) _ w9 (HR.out.keep HB.out) hrc hcc (by have := HN.out; omega) HROW.out (by show countL [t] < 102; have := HC60.out; rw [countL, countL]; omega)).mono ?_
            rintro e w10 ⟨hm, hb⟩
            replace HB := Lib.hid (HB.out.trans (hb.mono HB.out.size))
            replace K0 := Lib.hid (keep hb K0.out)
            clear hb n0 n1 n2 n3 ct q35
            have HKD4 := Lib.hid (show t.kind ≠ 1 ∧ t.kind ≠ 2 ∧ t.kind ≠ 3 ∧ t.kind ≠ 4 by
              have h := (valid_parts HVT.out).2.2.2
              obtain ⟨hf, hbp⟩ := formL_at h t List.mem_cons_self
              have hkn : t.kids.length ≠ 0 := fun e => HKN.out (List.length_eq_zero_iff.1 e)
              have h2 := (form_own hf).2
              unfold badPair at hbp
              have hx : ∀ k : Int, t.kind = k → k = 2 ∨ k = 3 ∨ k = 4 → False := fun k e hk => by
                unfold kidsB at h2
                rw [if_neg (by omega), Bool.and_eq_true, if_neg (by omega), if_pos (by omega)] at h2
                exact hkn (of_decide_eq_true h2.2)
              exact ⟨fun e => by rw [e] at hbp; simp at hbp, fun e => hx 2 e (by simp), fun e => hx 3 e (by simp), fun e => hx 4 e (by simp)⟩)
            have HK1 := Lib.hid HKD4.out.1
            have HTR := Lib.hid (show treeF rs 102 (rowT [t]) = (restF (listM rs 101) t [0] 0).then_ fun ts => .ok (.mk 4 (shapeN t).1 ⟨#[]⟩ (shapeN t).2 ts) by
              rw [tree_slot HV.out HVT.out (by show countL [t] ≤ 500; have := HC60.out; rw [countL, countL]; omega)]
              exact one_tree (f := 101) HV.out HTH.out HKD4.out.2.1 HKD4.out.2.2.1 HKD4.out.2.2.2 HKN.out)
            have HXE := Lib.hid (show badE (treeF rs 102 (rowT [t])) by
              rw [tree_slot HV.out HVT.out (by show countL [t] ≤ 500; have := HC60.out; rw [countL, countL]; omega)]
              exact list_err rs 102 _ _ _ (by show countL [t] < 102; have := HC60.out; rw [countL, countL]; omega))
            cases htot : restF (listM rs 101) t [0] 0 with
            | bad ex pp =>
              have HTB := Lib.hid (show treeF rs 102 (rowT [t]) = .bad ex pp by rw [HTR.out, htot]; rfl)
              rw [HTB.out] at hm
              have HTOT := Lib.hid htot
              clear htot
              obtain ⟨pA, pc, rfl, hpp, hppc, hppc2⟩ := hm
              have hba := bel_alloc w10 (.cells zerC 31)
              have HPP := Lib.hid (hpp.keep hba)
              have HBR := Lib.hid (HB.out.trans (hba.mono HB.out.size))
              have K0R := Lib.hid (keep hba K0.out)
              have HPL := Lib.hid (show pp.length ≤ 1000000 by
                have h := list_plen rs 102 [t] [] 0 ex pp (by
                  have h9 := HTB.out
                  rw [tree_slot HV.out HVT.out (by show countL [t] ≤ 500; have := HC60.out; rw [countL, countL]; omega)] at h9
                  exact h9)
                simp only [List.length_nil] at h
                omega)
              have HEX := Lib.hid (show ex ≠ 0 by rcases HXE.out ex pp HTB.out with h | h <;> omega)
              clear hpp hba HB K0 K5 HROW
              go_wp2_with fail
              generalize w10.alloc (.cells zerC 31) = w11 at *
              go_loopw [12, 13] (fun kk i wr => ∃ (s k : Nat) (xs : List Trm), s ≤ t.kids.length ∧ i = .int .i64 s ∧ kk = .int .i64 k ∧ xs.length = k ∧ k ≤ s ∧ Hid (SoFar (restF (listM rs 101) t [0] 0) xs (restF (listM rs 101) t [0] s)) ∧ Hid (Blk wr w.heap.size 25 #[.int .i64 t.kind, .string t.text, .int .i64 t.cols, .slice A2 t.kids.length cap2]) ∧ Hid (PathAt wr pA pp) ∧ Hid (Below w.heap.size w wr)) (fun _ i _ => t.kids.length - (intOf i).toNat)
              case atStart => exact ⟨0, 0, [], by omega, rfl, rfl, rfl, by omega, Lib.hid (SoFar.start _), K0R, HPP, HBR⟩
              case round =>
                clear K0R HBR HPP
                obtain ⟨s, k, xs, hs, rfl, rfl, hkx, hks, HSF, K0R, HPP, HBR⟩ := hrel
                by_cases hlt : s < t.kids.length
                · obtain ⟨d, hd⟩ : ∃ d, t.kids[s]? = some d := ⟨_, List.getElem?_eq_getElem hlt⟩
                  obtain ⟨ad, A3, cap3, hA2, hadl, hsz3, hl3, hc3, hk3, hN3, d0, d1, d2, d3⟩ := (HK.out.keep HBR.out).at_ hd
                  have HDD := Lib.hid hd
                  have HND := Lib.hid hN3
                  have HDV := Lib.hid (slot_valid HVT.out (List.mem_of_getElem? hd) HK1.out)
                  have HDC := Lib.hid (show countL d.kids ≤ 60 by have h1 := mem_count (List.mem_of_getElem? hd); have h2 := count_kids d; have h3 := count_kids t; have h4 := HC60.out; omega)
                  have hs0 : (s : Int) < (t.kids.length : Int) := by omega
                  have kk3 := K0R.out.cell 3
                  have kk0 := K0R.out.cell 0
                  subst hA2
                  have HSN := Lib.hid (show s ≤ 60 by have h1 := len_count t.kids; have h3 := count_kids t; have h4 := HC60.out; omega)
                  clear hd hk3 hN3 hadl hsz3
                  go_upto_region 14 with (fail)
                  go_cut [96] (fun b wc => b = .bool (skipB t s) ∧ wc = wr)
                  case first =>
                    by_cases h6 : t.kind = 6
                    · have q6 : (t.kind == 6) = true := beq_iff_eq.2 h6
                      by_cases hs00 : s = 0
                      · have q0 : ((s : Int) == 0) = true := by rw [beq_iff_eq]; omega
                        have HSK := Lib.hid (show skipB t s = decide (d.kids.length = 0) by
                          have h7 := HDD.out
                          rw [hs00] at h7 ⊢
                          unfold skipB
                          rw [decide_eq_true h6]
                          cases hkk : t.kids with
                          | nil => rw [hkk] at h7; cases h7
                          | cons a r =>
                            rw [hkk, List.getElem?_cons_zero] at h7
                            injection h7 with h7
                            subst h7
                            cases hak : a.kids <;> simp [hak])
                        have e3 : wr.cell? ⟨(ad.add 0).block, (ad.add 0).off + 3, none⟩ = some (.slice A3 d.kids.length cap3) := by rw [hs00, Nat.zero_mul] at d3; exact d3
                        rw [show ad.add 0 = ad by unfold Addr.add; cases ad; simp] at e3
                        have hpos : (0 : Int) < (t.kids.length : Int) := by omega
                        clear h6 hs00 d0 d1 d2
                        go_wp2_with fail
                        go_meet
                        exact ⟨by rw [HSK.out]; congr 1; rw [Bool.eq_iff_iff, beq_iff_eq, decide_eq_true_iff]; omega, rfl⟩
                      · have q0 : ((s : Int) == 0) = false := by rw [beq_eq_false_iff_ne]; omega
                        have HSK := Lib.hid (show skipB t s = false by unfold skipB; rw [decide_eq_false hs00, Bool.false_and, Bool.and_false])
                        clear h6 hs00 d0 d1 d2 d3
                        go_wp2_with fail
                        go_meet
                        exact ⟨by rw [HSK.out], rfl⟩
                    · have q6 : (t.kind == 6) = false := beq_eq_false_iff_ne.2 h6
                      have HSK := Lib.hid (show skipB t s = false by unfold skipB; rw [decide_eq_false h6, Bool.false_and])
                      clear h6 d0 d1 d2 d3
                      go_wp2_with fail
                      go_meet
                      exact ⟨by rw [HSK.out], rfl⟩
                  obtain ⟨h96, rfl⟩ := hcut
                  subst h96
                  clear kk0 kk3
                  cases hsk : skipB t s with
                  | true =>
                    have HSF2 := Lib.hid (show SoFar _ xs (restF (listM rs 101) t [0] (s + 1)) by rw [← rest_skip hsk]; exact HSF.out)
                    clear hsk d0 d1 d2 d3
                    go_wp2_with fail
                    go_roundw
                    case rel => exact ⟨s + 1, k, xs, by omega, by go_num, rfl, hkx, by omega, HSF2, K0R, HPP, HBR⟩
                    case measure => simp [intOf]; omega
                  | false =>
                    have HSF2 := Lib.hid (show SoFar _ xs ((listM rs 101 d.kids ([0] ++ [(s : Int)]) 0).then_ fun t' => (restF (listM rs 101) t [0] (s + 1)).then_ fun ts => .ok (t' :: ts)) by rw [← rest_go hsk HDD.out]; exact HSF.out)
                    clear hsk
                    have kk3 := K0R.out.cell 3
                    go_wp2_with fail
                    refine (tree_any A cap rs 101 d _ wc (HR.out.keep HBR.out) hrc hcc (by have := HN.out; omega) HND.out (by have := HDC.out; omega)).mono ?_
                    rintro e wt ⟨hm, hb⟩
                    rw [tree_slot HV.out HDV.out (by have := HDC.out; omega)] at hm
                    replace K0R := Lib.hid (keep hb K0R.out)
                    replace HPP := Lib.hid (HPP.out.keep hb)
                    have HBW := HBR
                    have HBR := Lib.hid (HBW.out.trans (hb.mono HBW.out.size))
                    clear hb kk3 d0 d1 d2 d3 HBW HND
                    cases hMd : listM rs 101 d.kids [] 0 with
                    | bad er q =>
                      rw [hMd] at hm
                      obtain ⟨Aq, cq, rfl, hpq, hqc, hqc2⟩ := hm
                      have HSH := Lib.hid (show listM rs 101 d.kids ([0] ++ [(s : Int)]) 0 = .bad er ([0, (s : Int)] ++ q) by rw [slot_shift, hMd]; rfl)
                      have HER := Lib.hid (show er ≠ 0 by rcases list_err rs 101 d.kids [] 0 (by have := HDC.out; omega) er q hMd with h | h <;> omega)
                      have HPQ := Lib.hid hpq
                      clear hMd hpq
                      have HSB := Lib.hid (HSF2.out.bad HSH.out)
                      obtain ⟨hex, hpp2⟩ : er = ex ∧ [0, (s : Int)] ++ q = pp := by
                        have h := HSB.out
                        rw [HTOT.out] at h
                        injection h with h1 h2
                        exact ⟨h1.symm, h2.symm⟩
                      subst hex
                      have HPE := Lib.hid hpp2
                      clear hpp2
                      have qe : (er != 0) = true := by rw [bne, beq_eq_false_iff_ne.2 HER.out]; rfl
                      have qe2 : (er == er) = true := beq_self_eq_true _
                      have HQL := Lib.hid (show q.length ≤ 1000000 by have h := HPL.out; rw [← HPE.out, List.length_append] at h; omega)
                      obtain ⟨ii, hii, hiz, his, hib⟩ := Sp.info_parts info_int
                      have hba := bel_alloc wt (.cells zerC 31)
                      have hsz1 : (wt.alloc (.cells zerC 31)).heap.size = wt.heap.size + 1 := by simp
                      have hba2 := bel_alloc (wt.alloc (.cells zerC 31)) (.cells #[.int .i64 0, .int .i64 (s : Int)] 3)
                      have HO2 := Lib.hid (own_two (wt.alloc (.cells zerC 31)) 0 (s : Int))
                      have HQ2 := Lib.hid ((HPQ.out.keep hba).keep hba2)
                      have HP2 := Lib.hid ((HPP.out.keep hba).keep hba2)
                      have HB2 := Lib.hid (HBR.out.trans ((hba.trans (hba2.mono hba.size)).mono HBR.out.size))
                      have HSZ2 := Lib.hid (show ((wt.alloc (.cells zerC 31)).alloc (.cells #[.int .i64 0, .int .i64 (s : Int)] 3)).heap.size = wt.heap.size + 2 by simp)
                      have HWT := Lib.hid HBR.out.size
                      rw [hsz1] at HO2
                      clear hba hba2 hsz1
                      have k14c := fun i => (Blk.new wt 31 zerC).cell i
                      have k14f := fun i => (Blk.new wt 31 zerC).frozen i
                      go_wp2_with (at_builtin; refine wpList_append_any_g (by kernel_rfl) (.tmp 116) (.tmp 117) 32 rfl (wt.heap.size + 1) 3 ii (.int .i64 0) 1 8 Tryz.underlying32 hii hiz his hib rfl (by decide) _ _ _ rfl HO2.out _ Aq q.length cq (ints q) rfl HQ2.out (ints_one q) (by have := HQL.out; unfold maxLen; omega) (by have := HQL.out; omega) (by simp) ?_)
                      intro v' w8 q2 q3 q4
                      have hgb : ∀ r, some (wt.heap.size + 1) = some r → wt.heap.size + 1 = r := fun r e => Option.some.inj e
                      have HPN := Lib.hid (show ∃ Az cz, v' = .slice Az ([0, (s : Int)] ++ q).length cz ∧ PathAt w8 Az ([0, (s : Int)] ++ q) by
                        have e1 : ints [0, (s : Int)] ++ ints q = ints ([0, (s : Int)] ++ q) := by simp [ints]
                        rw [e1, show 2 + q.length = ([0, (s : Int)] ++ q).length by simp; omega] at q2
                        obtain ⟨gv, cv, hv, _, _⟩ := q2.form (by simp)
                        subst hv
                        exact ⟨_, _, rfl, Reads.of_own q2⟩)
                      have HP8 := Lib.hid (show PathAt w8 pA pp from HP2.out.grown (q := wt.heap.size + 1) q3 fun ad h1 h2 h3 => by have := HPP.out.lt ad h1 h2; omega)
                      have HB8 := Lib.hid (HB2.out.grown q3 HB2.out.size fun r e => by have := hgb r e; have := HWT.out; omega)
                      clear q2 q3 q4 hgb HO2 HQ2 HP2 HB2
                      obtain ⟨Az, cz, rfl, hpz⟩ := HPN.out
                      have HPZ := Lib.hid hpz
                      clear hpz HPN
                      go_wp2_with fail
                      refine (same_any pA Az pc cz pp ([0, (s : Int)] ++ q) w8 HP8.out HPZ.out HPL.out).mono ?_
                      rintro e w9' ⟨rfl, hb⟩
                      rw [decide_eq_true HPE.out.symm]
                      have HB9 := Lib.hid (HB8.out.trans (hb.mono HB8.out.size))
                      clear hb
                      go_wp2_with fail
                      exact bodyPost_ret (v := .bool true) (by simp [results, Tryz.results5, go_sem]) rfl ⟨rfl, HB9.out⟩
                    | ok u =>
                      rw [hMd] at hm
                      obtain ⟨cu0, rfl, htu⟩ := hm
                      have HSH := Lib.hid (show listM rs 101 d.kids ([0] ++ [(s : Int)]) 0 = .ok u by rw [slot_shift, hMd]; rfl)
                      clear hMd
                      have HSF3 := Lib.hid (HSF2.out.next HSH.out)
                      have qe : (ex == 0) = false := beq_eq_false_iff_ne.2 HEX.out
                      obtain ⟨tk, ta, tv, tA, tn, tcp, tf, rfl⟩ := htu.ext
                      have hba := bel_alloc wt (.cells #[.int .i64 tk, .string ta, .string tv, .slice tA tn tcp, .string tf] 31)
                      have HP2 := Lib.hid (HPP.out.keep hba)
                      have HB2 := Lib.hid (HBR.out.trans (hba.mono HBR.out.size))
                      have K2R := Lib.hid (keep hba K0R.out)
                      have hk60 : k ≤ 60 := by have := HSN.out; omega
                      clear hba
                      have k14c := fun i => (Blk.new wt 31 zerC).cell i
                      have k14f := fun i => (Blk.new wt 31 zerC).frozen i
                      clear htu
                      go_upto_region 18 with (fail)
                      clear k14c k14f
                      generalize wt.alloc (.cells #[.int .i64 tk, .string ta, .string tv, .slice tA tn tcp, .string tf] 31) = wu at *
                      go_quiet (fail)
                      have hdr := below_drewN (Below.refl wu.heap.size wu) nq
                      replace HP2 := Lib.hid (HP2.out.keep hdr)
                      replace HB2 := Lib.hid (HB2.out.trans (hdr.mono HB2.out.size))
                      replace K2R := Lib.hid (keep hdr K2R.out)
                      clear hdr
                      go_wp2_with fail
                      go_roundw
                      case rel => exact ⟨s + 1, k + 1, xs ++ [u], by omega, by go_num, by go_num, by rw [List.length_append, List.length_singleton, hkx], by omega, HSF3, K2R, HP2, HB2⟩
                      case measure => simp [intOf]; omega
                · obtain rfl : s = t.kids.length := by omega
                  rw [rest_end HKN.out] at HSF
                  have kk3 := K0R.out.cell 3
                  exact absurd HSF.out.end (by rw [HTOT.out]; intro h; cases h)
            | ok us =>
              have HTB := Lib.hid (show treeF rs 102 (rowT [t]) = .ok (.mk 4 (shapeN t).1 ⟨#[]⟩ (shapeN t).2 us) by rw [HTR.out, htot]; rfl)
              rw [HTB.out] at hm
              have HTOT := Lib.hid htot
              clear htot
              obtain ⟨cm0, rfl, htm⟩ := hm
              obtain ⟨AM, cm, rfl, -, -, -, -, -, hms⟩ := htm.form
              dsimp only [Trm.kind, Trm.nam, Trm.vr, Trm.args, Trm.form, trmC] at hms ⊢
              generalize (shapeN t).1 = nm at *
              generalize (shapeN t).2 = fm at *
              have hba := bel_alloc w10 (.cells #[.int .i64 4, .string nm, .string ⟨#[]⟩, .slice AM us.length cm, .string fm] 31)
              have HMS := Lib.hid (show TmsAt (fun _ => True) _ AM us from (hms.any fun _ _ _ => trivial).keep hba)
              have K9 := Lib.hid (Blk.new w10 31 #[.int .i64 4, .string nm, .string ⟨#[]⟩, .slice AM us.length cm, .string fm])
              have HBR := Lib.hid (HB.out.trans (hba.mono HB.out.size))
              have K0R := Lib.hid (keep hba K0.out)
              clear hms htm hba HB K0 K5 HROW
              have k14c := fun i => (Blk.new w10 31 zerC).cell i
              have k14f := fun i => (Blk.new w10 31 zerC).frozen i
              go_wp2_with fail
              clear k14c k14f
              generalize w10.alloc (.cells #[.int .i64 4, .string nm, .string ⟨#[]⟩, .slice AM us.length cm, .string fm] 31) = w11 at *
              generalize w10.heap.size = n9 at *
              go_loopw [12, 13] (fun kk i wr => ∃ (s k : Nat) (xs : List Trm), s ≤ t.kids.length ∧ i = .int .i64 s ∧ kk = .int .i64 k ∧ xs.length = k ∧ k ≤ s ∧ Hid (SoFar (restF (listM rs 101) t [0] 0) xs (restF (listM rs 101) t [0] s)) ∧ Hid (Blk wr w.heap.size 25 #[.int .i64 t.kind, .string t.text, .int .i64 t.cols, .slice A2 t.kids.length cap2]) ∧ Hid (Blk wr n9 31 #[.int .i64 4, .string nm, .string ⟨#[]⟩, .slice AM us.length cm, .string fm]) ∧ Hid (TmsAt (fun _ => True) wr AM us) ∧ Hid (Below w.heap.size w wr)) (fun _ i _ => t.kids.length - (intOf i).toNat)
              case atStart => exact ⟨0, 0, [], by omega, rfl, rfl, rfl, by omega, Lib.hid (SoFar.start _), K0R, K9, HMS, HBR⟩
              case round =>
                clear K0R HBR K9 HMS
                obtain ⟨s, k, xs, hs, rfl, rfl, hkx, hks, HSF, K0R, K9, HMS, HBR⟩ := hrel
                by_cases hlt : s < t.kids.length
                · obtain ⟨d, hd⟩ : ∃ d, t.kids[s]? = some d := ⟨_, List.getElem?_eq_getElem hlt⟩
                  obtain ⟨ad, A3, cap3, hA2, hadl, hsz3, hl3, hc3, hk3, hN3, d0, d1, d2, d3⟩ := (HK.out.keep HBR.out).at_ hd
                  have HDD := Lib.hid hd
                  have HND := Lib.hid hN3
                  have HDV := Lib.hid (slot_valid HVT.out (List.mem_of_getElem? hd) HK1.out)
                  have HDC := Lib.hid (show countL d.kids ≤ 60 by have h1 := mem_count (List.mem_of_getElem? hd); have h2 := count_kids d; have h3 := count_kids t; have h4 := HC60.out; omega)
                  have hs0 : (s : Int) < (t.kids.length : Int) := by omega
                  have kk3 := K0R.out.cell 3
                  have kk0 := K0R.out.cell 0
                  subst hA2
                  have HSN := Lib.hid (show s ≤ 60 by have h1 := len_count t.kids; have h3 := count_kids t; have h4 := HC60.out; omega)
                  clear hd hk3 hN3 hadl hsz3
                  go_upto_region 14 with (fail)
                  go_cut [96] (fun b wc => b = .bool (skipB t s) ∧ wc = wr)
                  case first =>
                    by_cases h6 : t.kind = 6
                    · have q6 : (t.kind == 6) = true := beq_iff_eq.2 h6
                      by_cases hs00 : s = 0
                      · have q0 : ((s : Int) == 0) = true := by rw [beq_iff_eq]; omega
                        have HSK := Lib.hid (show skipB t s = decide (d.kids.length = 0) by
                          have h7 := HDD.out
                          rw [hs00] at h7 ⊢
                          unfold skipB
                          rw [decide_eq_true h6]
                          cases hkk : t.kids with
                          | nil => rw [hkk] at h7; cases h7
                          | cons a r =>
                            rw [hkk, List.getElem?_cons_zero] at h7
                            injection h7 with h7
                            subst h7
                            cases hak : a.kids <;> simp [hak])
                        have e3 : wr.cell? ⟨(ad.add 0).block, (ad.add 0).off + 3, none⟩ = some (.slice A3 d.kids.length cap3) := by rw [hs00, Nat.zero_mul] at d3; exact d3
                        rw [show ad.add 0 = ad by unfold Addr.add; cases ad; simp] at e3
                        have hpos : (0 : Int) < (t.kids.length : Int) := by omega
                        clear h6 hs00 d0 d1 d2
                        go_wp2_with fail
                        go_meet
                        exact ⟨by rw [HSK.out]; congr 1; rw [Bool.eq_iff_iff, beq_iff_eq, decide_eq_true_iff]; omega, rfl⟩
                      · have q0 : ((s : Int) == 0) = false := by rw [beq_eq_false_iff_ne]; omega
                        have HSK := Lib.hid (show skipB t s = false by unfold skipB; rw [decide_eq_false hs00, Bool.false_and, Bool.and_false])
                        clear h6 hs00 d0 d1 d2 d3
                        go_wp2_with fail
                        go_meet
                        exact ⟨by rw [HSK.out], rfl⟩
                    · have q6 : (t.kind == 6) = false := beq_eq_false_iff_ne.2 h6
                      have HSK := Lib.hid (show skipB t s = false by unfold skipB; rw [decide_eq_false h6, Bool.false_and])
                      clear h6 d0 d1 d2 d3
                      go_wp2_with fail
                      go_meet
                      exact ⟨by rw [HSK.out], rfl⟩
                  obtain ⟨h96, rfl⟩ := hcut
                  subst h96
                  clear kk0 kk3
                  cases hsk : skipB t s with
                  | true =>
                    have HSF2 := Lib.hid (show SoFar _ xs (restF (listM rs 101) t [0] (s + 1)) by rw [← rest_skip hsk]; exact HSF.out)
                    clear hsk d0 d1 d2 d3
                    go_wp2_with fail
                    go_roundw
                    case rel => exact ⟨s + 1, k, xs, by omega, by go_num, rfl, hkx, by omega, HSF2, K0R, K9, HMS, HBR⟩
                    case measure => simp [intOf]; omega
                  | false =>
                    have HSF2 := Lib.hid (show SoFar _ xs ((listM rs 101 d.kids ([0] ++ [(s : Int)]) 0).then_ fun t' => (restF (listM rs 101) t [0] (s + 1)).then_ fun ts => .ok (t' :: ts)) by rw [← rest_go hsk HDD.out]; exact HSF.out)
                    clear hsk
                    have kk3 := K0R.out.cell 3
                    go_wp2_with fail
                    refine (tree_any A cap rs 101 d _ wc (HR.out.keep HBR.out) hrc hcc (by have := HN.out; omega) HND.out (by have := HDC.out; omega)).mono ?_
                    rintro e wt ⟨hm, hb⟩
                    rw [tree_slot HV.out HDV.out (by have := HDC.out; omega)] at hm
                    replace K0R := Lib.hid (keep hb K0R.out)
                    replace K9 := Lib.hid (keep hb K9.out)
                    replace HMS := Lib.hid (HMS.out.keep hb)
                    have HBW := HBR
                    have HBR := Lib.hid (HBW.out.trans (hb.mono HBW.out.size))
                    clear hb kk3 d0 d1 d2 d3 HBW HND
                    cases hMd : listM rs 101 d.kids [] 0 with
                    | bad er q =>
                      rw [hMd] at hm
                      obtain ⟨Aq, cq, rfl, hpq, hqc, hqc2⟩ := hm
                      have HSH := Lib.hid (show listM rs 101 d.kids ([0] ++ [(s : Int)]) 0 = .bad er ([0, (s : Int)] ++ q) by rw [slot_shift, hMd]; rfl)
                      have HER := Lib.hid (show er ≠ 0 by rcases list_err rs 101 d.kids [] 0 (by have := HDC.out; omega) er q hMd with h | h <;> omega)
                      have HPQ := Lib.hid hpq
                      clear hMd hpq
                      exact absurd (HSF2.out.bad HSH.out) (by rw [HTOT.out]; intro h; cases h)
                    | ok u =>
                      rw [hMd] at hm
                      obtain ⟨cu0, rfl, htu⟩ := hm
                      have HSH := Lib.hid (show listM rs 101 d.kids ([0] ++ [(s : Int)]) 0 = .ok u by rw [slot_shift, hMd]; rfl)
                      clear hMd
                      have HSF3 := Lib.hid (HSF2.out.next HSH.out)
                      have HGET := Lib.hid (show us[k]? = some u by rw [← hkx]; exact HSF2.out.get HSH.out HTOT.out)
                      have HPV := Lib.hid htu.mat
                      obtain ⟨Av, cv, rfl, -⟩ := htu.form
                      dsimp only [trmC] at HPV
                      have hba := bel_alloc wt (.cells #[.int .i64 u.kind, .string u.nam, .string u.vr, .slice Av u.args.length cv, .string u.form] 31)
                      have K14 := Lib.hid (Blk.new wt 31 #[.int .i64 u.kind, .string u.nam, .string u.vr, .slice Av u.args.length cv, .string u.form])
                      replace K9 := Lib.hid (keep hba K9.out)
                      replace HMS := Lib.hid (HMS.out.keep hba)
                      replace HBR := Lib.hid (HBR.out.trans (hba.mono HBR.out.size))
                      replace K0R := Lib.hid (keep hba K0R.out)
                      replace HPV := Lib.hid (HPV.out.keep hba)
                      have hk60 : k ≤ 60 := by have := HSN.out; omega
                      clear hba htu
                      have k14c := fun i => (Blk.new wt 31 zerC).cell i
                      have k14f := fun i => (Blk.new wt 31 zerC).frozen i
                      go_upto_region 18 with (fail)
                      clear k14c k14f
                      generalize wt.alloc (.cells #[.int .i64 u.kind, .string u.nam, .string u.vr, .slice Av u.args.length cv, .string u.form] 31) = wu at *
                      generalize wt.heap.size = n14 at *
                      have hku : (k : Int) < (us.length : Int) := by have := (List.getElem?_eq_some_iff.1 HGET.out).1; omega
                      obtain ⟨adu, Au, cu, hAM, _, hpt⟩ := HMS.out.args.at_ HGET.out
                      have HPU := Lib.hid hpt.whole
                      dsimp only [trmC] at HPU
                      have HLU := Lib.hid (And.intro hpt.1 (And.intro hpt.2.1 (And.intro hpt.2.2.1 (And.intro hpt.2.2.2.1 (And.intro hpt.2.2.2.2.1 hpt.2.2.2.2.2.1)))))
                      subst hAM
                      clear hpt
                      refine region_mono (X := Gh) (w0 := _) (by kernel_rfl) [2, 2, 2, 2, 2, 1, 2, 2, 2, 2, 1, 2, 2, 1, 1, 1, 2, 2, 2] [false, false, false, false, false, false, false, false, false, false, false, false, false, false, false, false, false, false, false] _ (fun gx => [.int .i64 0, .bool true, .bool true, .int .i64 (↑k), .pointer (some ⟨n9, 3, none⟩), .slice (some adu) us.length cm, .int .i64 (us.length : Nat), .bool false, .bool false, .pointer (some ⟨n9, 3, none⟩), .slice (some adu) us.length cm, .int .i64 (↑k), .pointer (some (adu.add (k * 5))), .agg #[.int .i64 u.kind, .string u.nam, .string u.vr, .slice Au u.args.length cu, .string u.form], .agg #[.int .i64 u.kind, .string u.nam, .string u.vr, .slice Av u.args.length cv, .string u.form], .bool true, .bool false, .bool false, .bool false]) [] (fun _ _ => True) Gh.zero (by kernel_rfl) (fun gx => by simp [fin, finOn, dstAt, List.range, List.range.loop, Act.put]; rfl) (fun _ => by kernel_rfl) MonoAll.nil (trivial) ?_ (by kernel_rfl) ?_
                      · refine ⟨fun gx wq => ?_, fun gx wq => ?_, fun gx wq => ?_, fun gx wq => ?_, fun gx wq => ?_, fun gx wq hB hJ hf => ?_, fun gx wq => ?_, fun gx wq => ?_, fun gx wq => ?_, fun gx wq => ?_, fun gx wq hB hJ hf => ?_, fun gx wq => ?_, fun gx wq => ?_, fun gx wq hB hJ hf => ?_, fun gx wq hB hJ hf => ?_, fun gx wq hB hJ hf => ?_, fun gx wq => ?_, fun gx wq => ?_, fun gx wq => ?_, trivial⟩
                        · exact Gives.pure (v := .int .i64 0) (by kernel_rfl) rfl
                        · exact Gives.pure (v := .bool true) (by simp [go_sem, evAct]) rfl
                        · exact Gives.pure (v := .bool true) (by kernel_rfl) rfl
                        · exact Gives.pure (v := .int .i64 (↑k)) (by kernel_rfl) rfl
                        · exact Gives.pure (v := .pointer (some ⟨n9, 3, none⟩)) (by simp [go_sem, evAct]) rfl
                        · have k3 := (keep hB K9.out).cell 3
                          exact Gives.still (v := .slice (some adu) us.length cm) hJ (by kernel_rfl) (by simp [go_sem, evAct, k3]) rfl
                        · exact Gives.pure (v := .int .i64 (us.length : Nat)) (by simp [go_sem, evAct]) rfl
                        · exact Gives.pure (v := .bool false) (by simp [go_sem, evAct]; try omega) rfl
                        · exact Gives.pure (v := .bool false) (by kernel_rfl) rfl
                        · exact Gives.pure (v := .pointer (some ⟨n9, 3, none⟩)) (by simp [go_sem, evAct]) rfl
                        · have k3 := (keep hB K9.out).cell 3
                          exact Gives.still (v := .slice (some adu) us.length cm) hJ (by kernel_rfl) (by simp [go_sem, evAct, k3]) rfl
                        · exact Gives.pure (v := .int .i64 (↑k)) (by kernel_rfl) rfl
                        · exact Gives.pure (v := .pointer (some (adu.add (k * 5)))) (by simp [go_sem, evAct, hku]; try omega) rfl
                        · have e0 := (hB.cell HLU.out.1).trans HLU.out.2.1
                          have e1 := (hB.cell (p := ⟨(adu.add (k * 5)).block, (adu.add (k * 5)).off + 1, none⟩) HLU.out.1).trans HLU.out.2.2.1
                          have e2 := (hB.cell (p := ⟨(adu.add (k * 5)).block, (adu.add (k * 5)).off + 2, none⟩) HLU.out.1).trans HLU.out.2.2.2.1
                          have e3 := (hB.cell (p := ⟨(adu.add (k * 5)).block, (adu.add (k * 5)).off + 3, none⟩) HLU.out.1).trans HLU.out.2.2.2.2.1
                          have e4 := (hB.cell (p := ⟨(adu.add (k * 5)).block, (adu.add (k * 5)).off + 4, none⟩) HLU.out.1).trans HLU.out.2.2.2.2.2
                          exact Gives.still (v := .agg #[.int .i64 u.kind, .string u.nam, .string u.vr, .slice Au u.args.length cu, .string u.form]) hJ (by kernel_rfl) (by simp [go_sem, evAct, e0, e1, e2, e3, e4]) rfl
                        · have e0 := (keep hB K14.out).cell 0
                          have e1 := (keep hB K14.out).cell 1
                          have e2 := (keep hB K14.out).cell 2
                          have e3 := (keep hB K14.out).cell 3
                          have e4 := (keep hB K14.out).cell 4
                          exact Gives.still (v := .agg #[.int .i64 u.kind, .string u.nam, .string u.vr, .slice Av u.args.length cv, .string u.form]) hJ (by kernel_rfl) (by simp [go_sem, evAct, e0, e1, e2, e3, e4]) rfl
                        · refine Gives.call (f := 16) (args := #[.agg #[.int .i64 u.kind, .string u.nam, .string u.vr, .slice Au u.args.length cu, .string u.form], .agg #[.int .i64 u.kind, .string u.nam, .string u.vr, .slice Av u.args.length cv, .string u.form]]) (w' := wq) (by kernel_rfl) ((requal_any _ u u _ _ wq (Nat.le_refl _) (HPU.out.keep hB) (HPV.out.keep hB)).mono ?_)
                          rintro e wz ⟨rfl, hb⟩
                          rw [eqm_self]
                          exact ⟨_, rfl, gx, rfl, (KeepsV.of_same ⟨.inr (.inr rfl), .inr (.inr rfl), .inr (.inr rfl), .inr (.inr rfl), .inr (.inr rfl), .inr (.inr rfl), .inr (.inr rfl), .inr (.inr rfl), .inr (.inr rfl), .inr (.inr rfl), .inr (.inr rfl), .inr (.inr rfl), .inr (.inr rfl), .inr (.inr rfl), .inr (.inr rfl), .inl rfl, .inr (.inr rfl), .inr (.inr rfl), .inr (.inr rfl), trivial⟩), hb, trivial, trivial⟩
                        · exact Gives.pure (v := .bool false) (by simp [go_sem, evAct]) rfl
                        · exact Gives.pure (v := .bool false) (by kernel_rfl) rfl
                        · exact Gives.pure (v := .bool false) (by kernel_rfl) rfl
                      · refine fun gx wq hB hJ hf => ?_
                        dsimp only [FactsAll] at hf
                        change wpOps _ _ _ [] _ _
                        refine wpOps_done ?_
                        have hb := hB
                        replace K9 := Lib.hid (keep hb K9.out)
                        replace HMS := Lib.hid (HMS.out.keep hb)
                        replace HBR := Lib.hid (HBR.out.trans (hb.mono HBR.out.size))
                        replace K0R := Lib.hid (keep hb K0R.out)
                        clear hB hJ hf hb K14 HPU HPV HLU hku
                        clear gx
                        generalize wq = wv at *
                        go_wp2_with fail
                        go_roundw
                        case rel => exact ⟨s + 1, k + 1, xs ++ [u], by omega, by go_num, by go_num, by rw [List.length_append, List.length_singleton, hkx], by omega, HSF3, K0R, K9, HMS, HBR⟩
                        case measure => simp [intOf]; omega
                · obtain rfl : s = t.kids.length := by omega
                  rw [rest_end HKN.out] at HSF
                  have kk3 := K0R.out.cell 3
                  have HUS := Lib.hid (show us.length = k by
                    have h := HSF.out.end
                    rw [HTOT.out] at h
                    injection h with h
                    rw [h]; exact hkx)
                  have qk : ((k : Int) == (us.length : Int)) = true := by rw [HUS.out]; exact beq_self_eq_true _
                  have k90 := K9.out.cell 0
                  have k93 := K9.out.cell 3
                  go_wp2_with fail
                  exact bodyPost_ret (v := .bool true) (by simp [results, Tryz.results5, go_sem]) rfl ⟨rfl, HBR.out⟩
end Go.Proofs.YthpioplpfmlgcaaGreatDoor.El
