/- SpeechRenamed returns true for every term and every site: the given statement, its listed tables tied to the text of the program. No condition of its own. -/
import Derived.Test.YtpokelkneblafaaGreatDoorCards
import Derived.Test.YtpokelkneblafaaGreatDoorTie
import Derived.SevenTiedAt
import Derived.Test.YtpokelkneblafaaGreatDoorOU
import Derived.Test.YtpokelkneblafaaGreatDoorWR
namespace Go.Proofs.YtpokelkneblafaaGreatDoor
open Go.ChangeShapes Go.WideShapes Go.ChangeAt Go.WideMaps Go.WideElems Go.RowKit Go.Deep
theorem ints1_cells : Tryz.prog.cellsOf 33 = 1 := by kernel_rfl
theorem u8_cells : Tryz.prog.cellsOf 5 = 1 := by kernel_rfl
theorem site_cells : Tryz.prog.cellsOf 35 = 2 := by kernel_rfl
section
variable {H : Type} {enc : TypeId × Value → H} {W : World} {r : Reach} {b0 base : Nat} {sp : Nat → Bool} {held : Bool} {v : Value} {d : DataW H} {p : List MemPlace}
set_option maxRecDepth 100000 in
theorem open_path {fuel : Nat} {v : Value} {x : DataW H × List MemPlace} (h : DataW.trod enc Tryz.prog W base sp held fuel 33 [v] = some x) : ∃ (A : Option Addr) (ps : List Int) (cap : Nat), v = .slice A ps.length cap ∧ ps.length ≤ cap ∧ cap ≤ 9223372036854775807 ∧ PthAt W A ps := by
  rcases open_elems Tryz.underlying33 h with rfl | ⟨a, len, cap, n, hf, rfl, hl, hm, hi⟩
  · exact ⟨none, [], 0, rfl, Nat.le_refl _, by omega, fun i t hi => by simp at hi⟩
  · rw [int_cells] at hi
    obtain ⟨ps, hlen, hps⟩ := list_of len (p := fun i (q : Int) => W.cell? (a.add i) = some (.int .i64 q)) (fun i hi' => by
      obtain ⟨cs, hcl, hat, y, hy⟩ := hi i hi'
      obtain ⟨c, cs, rfl⟩ := List.exists_cons_of_length_eq_add_one hcl
      obtain rfl := List.eq_nil_of_length_eq_zero (Nat.succ.inj hcl)
      obtain ⟨q, e, _⟩ := DataW.trod_int Tryz.underlying3 hy
      obtain rfl : c = .int .i64 q := by simpa using e
      have := hat 0 (by omega)
      rw [Nat.mul_one, Nat.add_zero] at this
      exact ⟨q, this⟩)
    subst hlen
    unfold maxLen at hm
    exact ⟨some a, ps, cap, rfl, hl, by omega, fun i q hq => ⟨a, rfl, cell_blk (hps i q hq), hps i q hq⟩⟩
set_option maxRecDepth 100000 in
theorem arg_site (hv : Value.okWide Tryz.prog W r b0 35 v) (h : DataW.Trod enc Tryz.prog W base sp held 35 v d p) : ∃ (A : Option Addr) (ps : List Int) (cap : Nat) (n : Int), v = .agg #[.slice A ps.length cap, .int .u8 n] ∧ 0 ≤ n ∧ n ≤ 255 ∧ ps.length ≤ cap ∧ cap ≤ 9223372036854775807 ∧ PthAt W A ps := by
  obtain ⟨cs, rfl, _⟩ := okWide_struct Tryz.underlying35 hv
  obtain ⟨fuel, hf⟩ := h
  replace hf : DataW.trod enc Tryz.prog W base sp held fuel 35 cs.toList = some (d, p) := by simpa [Value.cells] using hf
  obtain ⟨cs⟩ := cs
  obtain ⟨xs, n, _, _, hcl, hxl, hf⟩ := DataW.trod_struct Tryz.underlying35 hf
  rw [site_cells] at hcl
  dsimp only at hcl hf
  obtain ⟨v0, cs, rfl⟩ := List.exists_cons_of_length_eq_add_one hcl
  replace hcl := Nat.succ.inj hcl
  obtain ⟨v1, cs, rfl⟩ := List.exists_cons_of_length_eq_add_one hcl
  replace hcl := Nat.succ.inj hcl
  obtain rfl := List.eq_nil_of_length_eq_zero hcl
  have hx : xs.length = 2 := hxl
  have get : ∀ i, i < 2 → ∃ y, xs[i]? = some y := fun i hi => ⟨_, List.getElem?_eq_getElem (by omega)⟩
  obtain ⟨y0, e0⟩ := get 0 (by omega)
  obtain ⟨y1, e1⟩ := get 1 (by omega)
  have t0 : DataW.trod enc Tryz.prog W base sp held n 33 (([v0, v1].drop 0).take (Tryz.prog.cellsOf 33)) = some y0 := (hf 0 _ rfl).trans e0
  have t1 : DataW.trod enc Tryz.prog W base sp held n 5 (([v0, v1].drop 1).take (Tryz.prog.cellsOf 5)) = some y1 := (hf 1 _ rfl).trans e1
  rw [ints1_cells] at t0
  obtain ⟨A, ps, cap, rfl, h1, h2, h3⟩ := open_path t0
  rw [u8_cells] at t1
  obtain ⟨m, k1, _, hw⟩ := DataW.trod_int Tryz.underlying5 t1
  obtain rfl : v1 = .int .u8 m := by simpa using k1
  have hb := bounds_u8 hw
  exact ⟨A, ps, cap, m, rfl, hb.1, by omega, h1, h2, h3⟩
end
set_option maxRecDepth 100000 in
theorem speechRenamed_lifted (os : Os) (started : os.Started) (H : Type) (enc : TypeId × Value → H) :
    ReturnsInHanded {} Tryz.checked os 4 .any (fun w args => (Rows.speechRenamedSpec.pre enc Tryz.prog Tryz.f4 [] false w args ∧ laidMetH Tryz.prog laid8 w) ∧ sizedMet enc Tryz.prog Tryz.f4 (OpenSpec.ofChange Rows.speechRenamedSpec) false w args)
      (Rows.speechRenamedSpec.post enc Tryz.prog Tryz.f4 false true false false) := by
  refine change_and_shaped (C := Tryz.checked) (X := fun w _ => laidMetH Tryz.prog laid8 w) (fun _ _ _ hh h => h.of_heap hh) own started (by kernel_rfl) Tryz.func4
    (ChangeSpec.witness_shaped (enc := enc) (C := Tryz.checked) (os := os) (X := fun w _ => laidMetH Tryz.prog laid8 w) false (World.laidAll Tryz.prog os laid8) #[.agg #[.int .i64 0, .string ⟨#[]⟩, .string ⟨#[]⟩, .slice none 0 0, .string ⟨#[]⟩], .agg #[.slice none 0 0, .int .u8 0]] 8 (World.laidAll_os _ _ _) (World.shaped_of_ZipB (by kernel_rfl) (by kernel_rfl)) (by kernel_rfl) (by kernel_rfl) (by kernel_rfl) (all_met os _)) ?_
  intro W base args ds gs before hval0 hW hL hsh
  have hval : ∀ (j : Nat) t v, Tryz.f4.params[j]? = some t → args[j]? = some v → Value.okWide Tryz.prog W .any base t v := hval0
  have hW' := hW
  obtain ⟨p, q, hA0, hV, rfl, hfz, hnd⟩ := hW
  have hA : DataW.TrodAll enc Tryz.prog W 0 (fun _ => true) true Tryz.f4.params.toList args.toList ds p := hA0
  rw [Tryz.params4] at hA hval
  obtain ⟨v0, v1, d0, d1, p0, p1, rfl, rfl, rfl, h0, h1⟩ := trodAll_two hA
  obtain ⟨t, c, rfl, ht⟩ := arg_term (hval 0 25 v0 rfl rfl) h0
  obtain ⟨A, ps, cap, n, rfl, hn0, hn1, hc, hc2, hP⟩ := arg_site (hval 1 35 v1 rfl rfl) h1
  have hG := glb_of hL hsh
  refine (renamed_walk t c A cap ps n W hn0 hn1 hc hc2 hG ht hP).mono fun e W' ⟨he, hb⟩ => ⟨_, he, ?_⟩
  exact law_post (tb := 4) (by kernel_rfl) (by kernel_rfl) rfl (by kernel_rfl) Tryz.underlying4 hW' rfl rfl rfl hb
theorem speechRenamed_holds : Rows.SpeechRenamedSaid :=
  OpenClaim.holds_of_wide 4 Tryz.f4 rfl rfl rfl rfl rfl rfl rfl ⟨rfl, rfl, rfl, rfl, rfl⟩ rfl rfl rfl rfl rfl (by kernel_rfl) Tryz.func4 (by kernel_rfl)
    (of_decide_eq_true (by kernel_rfl)) (by unfold Func.isWrapper; first | (rw [if_pos (by decide +kernel)]; kernel_rfl) | (rw [if_neg (by decide +kernel)]; exact ⟨rfl, rfl⟩))
    (fun os started H enc _ => speechRenamed_lifted os started H enc)
theorem speechRenamed_card : Rows.SpeechRenamedCardSaid :=
  Claim7.holds_tied_plain_at .later [] [.data, .data, .data, .data, .sentinel, .sentinel, .pinned, .pinned] true (true, "132f1610e38ac727d76a779705e17e649420a567b6a20a56b37d63b53abd406e") true
    speechRenamed_holds (fun _ h => by cases h) (by kernel_rfl) (fun _ h => by cases h) speechRenamed_row_tie rfl ⟨rfl, rfl⟩ (by kernel_rfl) rfl
    (fun f fn hf hfn => by
      obtain rfl : f = 4 := Option.some.inj ((show Tryz.prog.funcNamed "vinculum/vinculumlaw54.SpeechRenamed" = some 4 by kernel_rfl).symm.trans hf) |>.symm
      obtain rfl : fn = Tryz.f4 := (Option.some.inj (Tryz.func4.symm.trans hfn)).symm
      exact ⟨by kernel_rfl, fun j t ht => by
        rw [Tryz.params4] at ht
        have hm : t ∈ [25, 35] := by simpa using Array.mem_of_getElem? ht
        have hall : ([25, 35].all fun u => !Tryz.prog.wantsStandIn u) = true := by kernel_rfl
        exact (show Tryz.prog.wantsStandIn t = false by simpa using List.all_eq_true.1 hall t hm)⟩)
    (by kernel_rfl)
#print axioms speechRenamed_card
end Go.Proofs.YtpokelkneblafaaGreatDoor
