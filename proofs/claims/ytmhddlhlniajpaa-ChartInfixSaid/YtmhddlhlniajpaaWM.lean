/- AY, NP, NB, RU, KC, WN in one text. -/
import Derived.Test.YtmhddlhlniajpaaLR
import Derived.Test.YtmhddlhlniajpaaRP5
import Derived.Test.YtmhddlhlniajpaaRP7
import Derived.Test.YtmhddlhlniajpaaVT
import Derived.Test.YtmhddlhlniajpaaFD
import Derived.Test.YtmhddlhlniajpaaOS
import Derived.Test.YtmhddlhlniajpaaKE
import Derived.Test.YtmhddlhlniajpaaRE
import Derived.Test.YtmhddlhlniajpaaC5
import Derived.Test.YtmhddlhlniajpaaC4
import Derived.Test.YtmhddlhlniajpaaFT
namespace Go.Proofs.Ytmhddlhlniajpaa
section
open Go.ChangeShapes Go.WideShapes Go.ChangeAt Go.WideMaps Go.WideElems Go.RowKit Go.Deep
/-- bytes in memory -/
def BytsAt (w : World) (A : Option Addr) (ps : List Nat) : Prop := ∀ (j : Nat) (b : Nat), ps[j]? = some b → b < 256 ∧ ∃ ad : Addr, A = some ad ∧ ad.block < w.heap.size ∧ w.cell? (ad.add j) = some (.int .u8 b)
theorem byte_cells : Try.prog.cellsOf 5 = 1 := by kernel_rfl
set_option maxRecDepth 100000 in
theorem open_bytes {H : Type} {enc : TypeId × Value → H} {w : World} {base : Nat} {spare : Nat → Bool} {held : Bool} {fuel : Nat} {v : Value} {x : DataW H × List MemPlace} (h : DataW.trod enc Try.prog w base spare held fuel 46 [v] = some x) :
    ∃ (A : Option Addr) (ts : List Nat) (cap : Nat), v = .slice A ts.length cap ∧ ts.length ≤ cap ∧ cap ≤ 9223372036854775807 ∧ BytsAt w A ts := by
  rcases open_elems Try.underlying46 h with rfl | ⟨a, len, cap, n, hf, rfl, hl, hm, hi⟩
  · exact ⟨none, [], 0, rfl, Nat.le_refl _, by omega, fun i t hi => by simp at hi⟩
  · rw [byte_cells] at hi
    obtain ⟨ts, hlen, hes⟩ := list_of len (p := fun i (b : Nat) => b < 256 ∧ w.cell? (a.add i) = some (.int .u8 b)) (fun i hi' => by
      obtain ⟨cs, hcl, hat, y, hy⟩ := hi i hi'
      match cs, hcl with
      | [v0], _ =>
        obtain ⟨n1, k1, _, z1⟩ := DataW.trod_int Try.underlying5 hy
        obtain rfl : v0 = .int .u8 n1 := by simpa using k1
        obtain ⟨z2, z3⟩ := bounds_u8 z1
        refine ⟨n1.toNat, by omega, ?_⟩
        have := hat 0 (by omega)
        rw [Nat.mul_one, Nat.add_zero] at this
        rw [this, show ((n1.toNat : Nat) : Int) = n1 by omega]
        rfl
      | [], h => simp at h
      | _ :: _ :: _, h => simp at h)
    subst hlen
    unfold maxLen at hm
    refine ⟨some a, ts, cap, rfl, hl, by omega, fun k s hk => ?_⟩
    obtain ⟨hf, hc⟩ := hes k s hk
    exact ⟨hf, a, rfl, cell_blk hc, hc⟩
set_option maxRecDepth 100000 in
theorem arg_bytes {H : Type} {enc : TypeId × Value → H} {W : World} {r : Reach} {b0 base : Nat} {sp : Nat → Bool} {held : Bool} {v : Value} {d : DataW H} {p : List MemPlace} (hv : Value.okWide Try.prog W r b0 46 v) (h : DataW.Trod enc Try.prog W base sp held 46 v d p) : ∃ (A : Option Addr) (ts : List Nat) (cap : Nat), v = .slice A ts.length cap ∧ ts.length ≤ cap ∧ cap ≤ 9223372036854775807 ∧ BytsAt W A ts := by
  obtain ⟨a0, len, cap, rfl⟩ := okWide_slice Try.underlying46 hv
  obtain ⟨fuel, hf⟩ := h
  exact open_bytes (x := (d, p)) (by simpa [Value.cells] using hf)
end
section
open Go.RowKit
def symS : ByteArray := ⟨#[43, 45, 42, 47, 61, 60, 62, 44]⟩
def letS : ByteArray := ⟨#[97, 98, 99, 100, 101, 102, 103, 104]⟩
def symA (i : Nat) : ByteArray := symS.extract i (i + 1)
def namA (i : Nat) : ByteArray := ⟨#[111, 112]⟩ ++ letS.extract i (i + 1)
def opA : ByteArray := ⟨#[35]⟩
theorem opA_list : opA.toList = opndL := by rw [ByteArray.toList_eq]; rfl
theorem sym_list : ∀ i, i < 8 → (symA i).toList = [[43, 45, 42, 47, 61, 60, 62, 44].getD i 0] := by
  intro i hi
  rw [ByteArray.toList_eq]
  match i, hi with
  | 0, _ => rfl
  | 1, _ => rfl
  | 2, _ => rfl
  | 3, _ => rfl
  | 4, _ => rfl
  | 5, _ => rfl
  | 6, _ => rfl
  | 7, _ => rfl
theorem nam_list : ∀ i, i < 8 → (namA i).toList = [111, 112, [97, 98, 99, 100, 101, 102, 103, 104].getD i 0] := by
  intro i hi
  rw [ByteArray.toList_eq]
  match i, hi with
  | 0, _ => rfl
  | 1, _ => rfl
  | 2, _ => rfl
  | 3, _ => rfl
  | 4, _ => rfl
  | 5, _ => rfl
  | 6, _ => rfl
  | 7, _ => rfl
theorem sym_ok : ∀ i, i < 8 → symB (symA i).toList = true ∧ (symA i).toList ≠ opndL := by
  intro i hi
  rw [sym_list i hi]
  match i, hi with
  | 0, _ => exact ⟨by decide, by decide⟩
  | 1, _ => exact ⟨by decide, by decide⟩
  | 2, _ => exact ⟨by decide, by decide⟩
  | 3, _ => exact ⟨by decide, by decide⟩
  | 4, _ => exact ⟨by decide, by decide⟩
  | 5, _ => exact ⟨by decide, by decide⟩
  | 6, _ => exact ⟨by decide, by decide⟩
  | 7, _ => exact ⟨by decide, by decide⟩
theorem nam_ok : ∀ i, i < 8 → namedB (namA i).toList = true := by
  intro i hi
  rw [nam_list i hi]
  match i, hi with
  | 0, _ => decide
  | 1, _ => decide
  | 2, _ => decide
  | 3, _ => decide
  | 4, _ => decide
  | 5, _ => decide
  | 6, _ => decide
  | 7, _ => decide
theorem sym_inj : ∀ i j, i < 8 → j < 8 → (symA i).toList = (symA j).toList → i = j := by
  intro i j hi hj h
  rw [sym_list i hi, sym_list j hj] at h
  have h1 : ∀ i, i < 8 → ∀ j, j < 8 → ([43, 45, 42, 47, 61, 60, 62, 44] : List UInt8).getD i 0 = ([43, 45, 42, 47, 61, 60, 62, 44] : List UInt8).getD j 0 → i = j := by decide
  exact h1 i hi j hj (by simpa using h)
theorem nam_inj : ∀ i j, i < 8 → j < 8 → (namA i).toList = (namA j).toList → i = j := by
  intro i j hi hj h
  rw [nam_list i hi, nam_list j hj] at h
  have h1 : ∀ i, i < 8 → ∀ j, j < 8 → ([97, 98, 99, 100, 101, 102, 103, 104] : List UInt8).getD i 0 = ([97, 98, 99, 100, 101, 102, 103, 104] : List UInt8).getD j 0 → i = j := by decide
  exact h1 i hi j hj (by simpa using h)
def rulI (i : Nat) (p : Int) : Rul := ⟨1, symA i, namA i, p, p, p + 1⟩
def prI (ps : List Nat) (i : Nat) : Int := 1 + ((ps.getD i 0 % 100 : Nat) : Int)
def rsI (ps : List Nat) : List Rul := (List.range ps.length).map fun i => rulI i (prI ps i)
def tsI (n : Nat) (os : List Nat) : List ByteArray := opA :: os.flatMap fun o => [symA (o % n), opA]
section
variable {ps os : List Nat} {n i : Nat} {u : Rul}
theorem rsI_len : (rsI ps).length = ps.length := by unfold rsI; rw [List.length_map, List.length_range]
theorem rsI_at (h : i < ps.length) : (rsI ps)[i]? = some (rulI i (prI ps i)) := by
  unfold rsI
  rw [List.getElem?_map, List.getElem?_range h]
  rfl
theorem rsI_of (h : (rsI ps)[i]? = some u) : i < ps.length ∧ u = rulI i (prI ps i) := by
  have hl : i < ps.length := by rw [← rsI_len]; exact (List.getElem?_eq_some_iff.1 h).1
  rw [rsI_at hl] at h
  exact ⟨hl, (Option.some.inj h).symm⟩
theorem rsI_take (h : i < ps.length) : (rsI ps).take (i + 1) = (rsI ps).take i ++ [rulI i (prI ps i)] := by rw [List.take_add_one, rsI_at h]; rfl
theorem prI_in : 1 ≤ prI ps i ∧ prI ps i ≤ 100 := by unfold prI; omega
theorem own_rulI (h : i < 8) : ownB (rulI i (prI ps i)) = true := by
  obtain ⟨h1, h2⟩ := prI_in (ps := ps) (i := i)
  have h3 := (sym_ok i h).1
  have h4 := nam_ok i h
  unfold ownB rulI inR
  dsimp only
  rw [h4, if_pos rfl, h3]
  simp
  omega
theorem firstsI (h8 : ps.length ≤ 8) : ∀ k, k ≤ ps.length → firstsB (rsI ps) k = true := by
  intro k
  induction k with
  | zero => intro _; rfl
  | succ k ih =>
    intro hk
    rw [firsts_succ (rsI_at (show k < ps.length by omega)), ih (by omega), own_rulI (by omega), Bool.true_and, Bool.true_and]
    unfold freshB
    rw [Bool.not_eq_true', List.any_eq_false]
    intro o ho
    obtain ⟨j, hj⟩ := List.mem_iff_getElem?.1 ho
    rw [List.getElem?_take] at hj
    split at hj
    · rename_i hjk
      obtain ⟨_, rfl⟩ := rsI_of hj
      unfold clashB
      have e1 : ((rulI j (prI ps j)).sym.toList == (rulI k (prI ps k)).sym.toList) = false := beq_eq_false_iff_ne.2 fun e => by have := sym_inj j k (by omega) (by omega) e; omega
      have e2 : ((rulI j (prI ps j)).nam.toList == (rulI k (prI ps k)).nam.toList) = false := beq_eq_false_iff_ne.2 fun e => by have := nam_inj j k (by omega) (by omega) e; omega
      rw [e1, e2]
      simp
    · cases hj
theorem validI (h8 : ps.length ≤ 8) : validB (rsI ps) = true := by
  unfold validB
  rw [rsI_len, firstsI h8 _ (Nat.le_refl _), decide_eq_true (by omega)]
  rfl
theorem tsI_len : (tsI n os).length = 2 * os.length + 1 := by
  unfold tsI
  rw [List.length_cons]
  congr 1
  induction os with
  | nil => rfl
  | cons o os ih => rw [List.flatMap_cons, List.length_append, ih]; show 2 + _ = _; rw [List.length_cons]; omega
theorem tsI_snoc {o : Nat} : tsI n (os ++ [o]) = tsI n os ++ [symA (o % n), opA] := by
  unfold tsI
  rw [List.flatMap_append, List.cons_append]
  simp
theorem flat_even : ∀ (os : List Nat) (q o : Nat), os[q]? = some o → (os.flatMap fun o => [symA (o % n), opA])[2 * q]? = some (symA (o % n)) ∧ (os.flatMap fun o => [symA (o % n), opA])[2 * q + 1]? = some opA
  | o :: os, 0, o', h => by
    obtain rfl : o = o' := by simpa using h
    exact ⟨rfl, rfl⟩
  | o :: os, q + 1, o', h => by
    have := flat_even os q o' (by simpa using h)
    rw [List.flatMap_cons]
    exact this
  | [], q, o', h => by simp at h
theorem tsI_op {q o : Nat} (h : os[q]? = some o) : (tsI n os)[2 * q + 1]? = some (symA (o % n)) := (flat_even os q o h).1
theorem tsI_opnd {q : Nat} (h : q ≤ os.length) : (tsI n os)[2 * q]? = some opA := by
  match q, h with
  | 0, _ => rfl
  | q + 1, h => exact (flat_even os q os[q] (List.getElem?_eq_getElem (by omega))).2
theorem toksI (hn : 0 < n) (h8 : n ≤ 8) (ho : os.length ≤ 30) : toksB (tsI n os) = true := by
  unfold toksB
  rw [tsI_len, decide_eq_true (by omega), Bool.true_and, List.all_eq_true]
  intro s hs
  unfold tsI at hs
  have hop : tokOK opA = true := opnd_ok opA_list
  rcases List.mem_cons.1 hs with rfl | hs
  · exact hop
  · obtain ⟨o, _, hs⟩ := List.mem_flatMap.1 hs
    simp only [List.mem_cons, List.not_mem_nil, or_false] at hs
    rcases hs with rfl | rfl
    · have hm : o % n < 8 := Nat.lt_of_lt_of_le (Nat.mod_lt _ hn) h8
      rw [opnd_no (sym_ok _ hm).2]
      exact (sym_ok _ hm).1
    · exact hop
theorem tokL_at {ts : List ByteArray} {k : Nat} {s : ByteArray} (h : ts[k]? = some s) : tokL ts k = s.toList := by
  unfold tokL
  rw [List.getD_eq_getElem?_getD, h]
  rfl
theorem infixI (hn : 0 < ps.length) (h8 : ps.length ≤ 8) : InfixP (rsI ps) (tsI ps.length os) os.length (fun q => os.getD q 0 % ps.length) := by
  refine ⟨valid_uniq (validI h8), tsI_len, fun q hq => ?_, fun q hq => ?_, fun m u hu => ?_⟩
  · rw [tokL_at (tsI_opnd hq), opA_list]
  · have hm : os.getD q 0 % ps.length < ps.length := Nat.mod_lt _ hn
    refine ⟨_, rsI_at hm, ?_⟩
    have : os[q]? = some (os.getD q 0) := by rw [List.getD_eq_getElem?_getD, List.getElem?_eq_getElem hq]; rfl
    rw [tokL_at (tsI_op this)]
    rfl
  · obtain ⟨hl, rfl⟩ := rsI_of hu
    have := prI_in (ps := ps) (i := m)
    exact ⟨rfl, rfl, rfl, (sym_ok m (by omega)).2, this.2⟩
theorem precI_rs (h : i < ps.length) : precI (rsI ps) i = prI ps i := by rw [precI_nat (rsI_at h)]; rfl
/-- one step of the search for the last operator with the least precedence -/
theorem last_step {P : Nat → Int} {j q : Nat} (h : LastMin P 0 j q) : LastMin P 0 (j + 1) (if P j ≤ P q then j else q) := by
  obtain ⟨h1, h2, h3⟩ := h
  split
  · rename_i hp
    refine ⟨by omega, by omega, fun t h4 h5 => ?_⟩
    by_cases e : t = j
    · subst e; exact ⟨Int.le_refl _, fun h => by omega⟩
    · have := (h3 t h4 (by omega)).1
      exact ⟨by omega, fun h => by omega⟩
  · rename_i hp
    refine ⟨by omega, by omega, fun t h4 h5 => ?_⟩
    by_cases e : t = j
    · subst e; exact ⟨by omega, fun _ => by omega⟩
    · exact h3 t h4 (by omega)
theorem last_one {P : Nat → Int} : LastMin P 0 1 0 := ⟨Nat.le_refl _, by omega, fun t _ h => by
  obtain rfl : t = 0 := by omega
  exact ⟨Int.le_refl _, fun h => by omega⟩⟩
end
end
section
open Go.RowKit
set_option maxRecDepth 100000 in
set_option maxHeartbeats 1600000 in
theorem r49find_any (A : Option Addr) (cap : Nat) (rs : List Rul) (kind : Int) (s : ByteArray) (n : Nat) (u : Rul) (w : World) (hR : RulsAt w A rs) (hn : rs.length ≤ 1000000) (hU : Uniq rs) (hu : rs[n]? = some u) (hk : u.kind = kind) (hs : u.sym.toList = s.toList) : Calls Try.prog 43 #[.slice A rs.length cap, .int .i64 kind, .string s] w fun e w' => e = .returned (.tuple #[.int .i64 n, .bool true]) ∧ w' = w := by
  have HR := Lib.hid hR
  have HU := Lib.hid hU
  have HN := Lib.hid hu
  have HK := Lib.hid hk
  have HS := Lib.hid hs
  have hnl : n < rs.length := (List.getElem?_eq_some_iff.1 hu).1
  clear hR hU hu hk hs
  go_enter Try.func43, Try.ntmps43
  go_wp2_with fail
  go_loop [8] (fun i => ∃ k : Nat, k ≤ n ∧ i = .int .i64 k) (fun i => rs.length - (intOf i).toNat)
  case atStart => exact ⟨0, by omega, rfl⟩
  case round =>
    obtain ⟨k, hkn, rfl⟩ := hrel
    have hlt : k < rs.length := by omega
    obtain ⟨x, hx⟩ : ∃ x, rs[k]? = some x := ⟨_, List.getElem?_eq_getElem hlt⟩
    obtain ⟨_, ad, rfl, hadl, c0, c1, _, _, _, _⟩ := HR.out.at_ hx
    have HX := Lib.hid hx
    clear hx
    cases h1 : (x.kind == kind)
    · have hne : k ≠ n := by
        rintro rfl
        have e := HX.out
        rw [HN.out] at e
        obtain rfl := Option.some.inj e
        rw [beq_eq_false_iff_ne] at h1
        exact h1 HK.out
      go_wp2_with fail
      go_round
      case rel => exact ⟨k + 1, by omega, by go_num⟩
      case measure => simp [intOf]; omega
    · cases h2 : (x.sym.toList == s.toList)
      · have hne : k ≠ n := by
          rintro rfl
          have e := HX.out
          rw [HN.out] at e
          obtain rfl := Option.some.inj e
          rw [beq_eq_false_iff_ne] at h2
          exact h2 HS.out
        go_wp2_with fail
        go_round
        case rel => exact ⟨k + 1, by omega, by go_num⟩
        case measure => simp [intOf]; omega
      · obtain rfl : k = n := HU.out k n x u HX.out HN.out ((beq_iff_eq.1 h1).trans HK.out.symm) ((beq_iff_eq.1 h2).trans HS.out.symm)
        go_wp2_with fail
        go_returns
        exact ⟨rfl, rfl⟩
set_option maxRecDepth 100000 in
set_option maxHeartbeats 1600000 in
theorem power_any (A : Option Addr) (cap : Nat) (rs : List Rul) (s : ByteArray) (n : Nat) (u : Rul) (w : World) (hR : RulsAt w A rs) (hn : rs.length ≤ 1000000) (hU : Uniq rs) (hu : rs[n]? = some u) (hk : u.kind = 1) (hs : u.sym.toList = s.toList) : Calls Try.prog 24 #[.slice A rs.length cap, .string s] w fun e w' => e = .returned (.int .i64 (precI rs n)) ∧ Below w.heap.size w w' := by
  have HP := Lib.hid (precI_nat hu)
  have HF := Lib.hid (r49find_any A cap rs 1 s n u w hR hn hU hu hk hs)
  obtain ⟨_, ad, rfl, hadl, _, _, _, c3, _, _⟩ := hR.at_ hu
  have j1 : (n : Int) < (rs.length : Int) := by have := (List.getElem?_eq_some_iff.1 hu).1; omega
  clear hR hU hu hk hs
  go_enter Try.func24, Try.ntmps24
  go_wp2_with fail
  refine HF.out.mono ?_
  rintro e w' ⟨rfl, rfl⟩
  go_wp2_with fail
  go_ret
  rw [HP.out]
  exact ⟨rfl, Below.refl _ _⟩
end
section
open Go.RowKit
theorem info_rul : (Try.prog.info? 41).map (fun i => (i.zero, i.size, i.bytes)) = some (some (.agg #[.int .i64 0, .string ⟨#[]⟩, .string ⟨#[]⟩, .int .i64 0, .int .i64 0, .int .i64 0]), 6, 64) := by kernel_rfl
def rulsL (rs : List Rul) : List Value := rs.flatMap fun r => r.c.toList
theorem ruls_len : ∀ rs : List Rul, (rulsL rs).length = rs.length * 6
  | [] => rfl
  | r :: rs => by
    have := ruls_len rs
    unfold rulsL at this ⊢
    rw [List.flatMap_cons, List.length_append, this, List.length_cons]
    show 6 + rs.length * 6 = (rs.length + 1) * 6
    omega
theorem ruls_append (rs us : List Rul) : rulsL (rs ++ us) = rulsL rs ++ rulsL us := by unfold rulsL; rw [List.flatMap_append]
theorem ruls_get : ∀ (rs : List Rul) (k j : Nat) (r : Rul), rs[k]? = some r → j < 6 → (rulsL rs)[k * 6 + j]? = r.c[j]?
  | r :: rs, 0, j, r', h, hj => by
    obtain rfl : r = r' := by simpa using h
    unfold rulsL
    rw [List.flatMap_cons, List.getElem?_append_left (by show 0 * 6 + j < 6; omega), Nat.zero_mul, Nat.zero_add, Array.getElem?_toList]
  | r :: rs, k + 1, j, r', h, hj => by
    have h1 := ruls_get rs k j r' (by simpa using h) hj
    unfold rulsL at h1 ⊢
    rw [List.flatMap_cons, List.getElem?_append_right (by show 6 ≤ _; omega), ← h1]
    congr 1
    show (k + 1) * 6 + j - 6 = _
    omega
  | [], k, j, r', h, _ => by simp at h
theorem ruls_of {rs : List Rul} {i : Nat} {u : Value} (h : (rulsL rs)[i]? = some u) : ∃ r, rs[i / 6]? = some r ∧ r.c[i % 6]? = some u := by
  have hl : i < rs.length * 6 := by rw [← ruls_len]; exact (List.getElem?_eq_some_iff.1 h).1
  obtain ⟨r, hr⟩ : ∃ r, rs[i / 6]? = some r := ⟨_, List.getElem?_eq_getElem (by omega)⟩
  refine ⟨r, hr, ?_⟩
  rw [← ruls_get rs (i / 6) (i % 6) r hr (by omega), show i / 6 * 6 + i % 6 = i by omega, h]
theorem ruls_take (rs : List Rul) (k : Nat) : (rulsL rs).take (k * 6) = rulsL (rs.take k) := by
  by_cases h : k ≤ rs.length
  · conv => lhs; rw [← List.take_append_drop k rs, ruls_append]
    rw [List.take_append_of_le_length (by rw [ruls_len, List.length_take]; omega), List.take_of_length_le (by rw [ruls_len, List.length_take]; omega)]
  · rw [List.take_of_length_le (by rw [ruls_len]; omega), List.take_of_length_le (by omega)]
theorem ruls_drop (rs : List Rul) (k : Nat) : (rulsL rs).drop (k * 6) = rulsL (rs.drop k) := by
  by_cases h : k ≤ rs.length
  · conv => lhs; rw [← List.take_append_drop k rs, ruls_append]
    rw [List.drop_append_of_le_length (by rw [ruls_len, List.length_take]; omega), List.drop_of_length_le (by rw [ruls_len, List.length_take]; omega), List.nil_append]
  · rw [List.drop_of_length_le (by rw [ruls_len]; omega), List.drop_of_length_le (by omega)]; rfl
theorem ruls_one {rs : List Rul} : ∀ u ∈ rulsL rs, u.oneCell' = true := by
  intro u hu
  unfold rulsL at hu
  obtain ⟨r, _, hu⟩ := List.mem_flatMap.1 hu
  have : u ∈ [Value.int .i64 r.kind, .string r.sym, .string r.nam, .int .i64 r.prec, .int .i64 r.left, .int .i64 r.right] := hu
  simp only [List.mem_cons, List.not_mem_nil, or_false] at this
  rcases this with rfl | rfl | rfl | rfl | rfl | rfl <;> rfl
theorem reads_ruls {w : World} {A : Option Addr} {rs : List Rul} (h : RulsAt w A rs) {k : Nat} (hk : k ≤ rs.length) : Reads w w.heap.size 6 A k (rulsL (rs.take k)) := by
  refine ⟨by rw [ruls_len, List.length_take]; congr 1; omega, fun h0 => ?_⟩
  obtain ⟨r, hr⟩ : ∃ r, rs[0]? = some r := ⟨_, List.getElem?_eq_getElem (by omega)⟩
  obtain ⟨_, ad, rfl, hlt, _⟩ := h 0 r hr
  refine ⟨ad, rfl, hlt, fun j u hj => ?_⟩
  obtain ⟨r', hr', hu⟩ := ruls_of hj
  rw [List.getElem?_take] at hr'
  split at hr'
  · obtain ⟨_, ad', e, _, hc⟩ := h _ r' hr'
    obtain rfl := Option.some.inj e
    have := hc (j % 6) u hu
    rw [show j / 6 * 6 + j % 6 = j by omega] at this
    exact this
  · cases hr'
/-- rules that this call has made -/
def OwnU (w : World) (B : Nat) (v : Value) (rs : List Rul) : Prop := w.ownsRow B 41 6 v rs.length (rulsL rs)
theorem OwnU.snoc {w : World} {B n : Nat} {v : Value} {rs us : List Rul} (hn : rs.length = n) (h : w.ownsRow B 41 6 v (n + us.length) (rulsL rs ++ rulsL us)) : OwnU w B v (rs ++ us) := by
  unfold OwnU
  rw [List.length_append, hn, ruls_append]
  exact h
theorem OwnU.form {w : World} {B : Nat} {v : Value} {rs : List Rul} (h : OwnU w B v rs) (hf : ∀ r ∈ rs, r.fits) : ∃ A cap, v = .slice A rs.length cap ∧ rs.length ≤ cap ∧ cap ≤ 9223372036854775807 ∧ RulsAt w A rs := by
  obtain ⟨h1, h2⟩ := h
  rcases h2 with ⟨rfl, h0⟩ | ⟨g, cap, cur, rfl, hg, hb, hn, hc, hs, ht⟩
  · obtain rfl : rs = [] := List.length_eq_zero_iff.1 h0
    exact ⟨none, 0, rfl, by simp, by omega, fun j p hj => by simp at hj⟩
  · have hb' : Blk w g 41 cur := hb
    refine ⟨_, cap, rfl, hn, by unfold maxLen at hc; omega, fun k r hk => ⟨hf r (List.mem_of_getElem? hk), ⟨g, 0, none⟩, rfl, hb'.lt, fun j v hj => ?_⟩⟩
    rw [show (⟨g, 0, none⟩ : Addr).add (k * 6 + j) = ⟨g, k * 6 + j, none⟩ by unfold Addr.add; split <;> simp_all, hb'.cell]
    have hj6 : j < 6 := (Array.getElem?_eq_some_iff.1 hj).1
    have h3 := ruls_get rs k j r hk hj6
    rw [hj, ← ht, List.getElem?_take] at h3
    split at h3
    · simpa using h3
    · cases h3
end
section
open Go.RowKit
def cokB (rs : List Rul) (ts : List ByteArray) (most : Int) : Bool := (validB rs && toksB ts) && (decide (0 ≤ most) && decide (most ≤ 1000000000))
def cntN (rs : List Rul) (ts : List ByteArray) (most : Int) : Int := if cokB rs ts most then min ((allR rs ts 0 ts.length).length : Int) most else 0
def cntE (rs : List Rul) (ts : List ByteArray) (most : Int) : Int := if cokB rs ts most then 0 else 1
theorem cnt_bad {rs : List Rul} {ts : List ByteArray} {most : Int} (h : cokB rs ts most = false) : cntN rs ts most = 0 ∧ cntE rs ts most = 1 := by
  unfold cntN cntE
  rw [h]
  exact ⟨rfl, rfl⟩
theorem cnt_good {rs : List Rul} {ts : List ByteArray} {most : Int} (h : cokB rs ts most = true) : cntN rs ts most = min ((allR rs ts 0 ts.length).length : Int) most ∧ cntE rs ts most = 0 := by
  unfold cntN cntE
  rw [h]
  exact ⟨rfl, rfl⟩
theorem least_zero {rs : List Rul} (hv : validB rs = true) {ts : List ByteArray} {i j : Nat} : leastR rs (allR rs ts i j) 0 = allR rs ts i j := by
  unfold leastR
  exact List.filter_eq_self.2 fun x hx => decide_eq_true (prec_nonneg hv hx).1
set_option maxRecDepth 100000 in
set_option maxHeartbeats 4000000 in
theorem count_any (A T : Option Addr) (cap cT : Nat) (rs : List Rul) (ts : List ByteArray) (most : Int) (w : World) (hR : RulsAt w A rs) (hT : ToksAt w T ts) (hc : rs.length ≤ cap) (hcap : cap ≤ 9223372036854775807) : Calls Try.prog 20 #[.slice A rs.length cap, .slice T ts.length cT, .int .i64 most] w fun e w' => e = .returned (.tuple #[.int .i64 (cntN rs ts most), .int .i64 (cntE rs ts most)]) ∧ Below w.heap.size w w' := by
  have HR := Lib.hid hR
  have HT := Lib.hid hT
  clear hR hT
  go_enter Try.func20, Try.ntmps20
  go_wp2_with fail
  refine (valid_any A cap rs _ HR.out hc hcap).mono ?_
  rintro e w1 ⟨rfl, hb⟩
  have HT := Lib.hid (HT.out.keep hb)
  have HR := Lib.hid (HR.out.keep hb)
  have HB := Lib.hid hb
  clear hb
  cases hv : validB rs
  · obtain ⟨e1, e2⟩ := cnt_bad (rs := rs) (ts := ts) (most := most) (by unfold cokB; rw [hv]; rfl)
    have E1 := Lib.hid e1
    have E2 := Lib.hid e2
    clear e1 e2 hv
    go_wp2_with fail
    go_returns
    rw [E1.out, E2.out]
    exact ⟨rfl, HB.out⟩
  · have HV := Lib.hid hv
    clear hv
    go_wp2_with fail
    refine (tvalid_any T cT ts _ HT.out).mono ?_
    rintro e w2 ⟨rfl, hb⟩
    have HT := Lib.hid (HT.out.keep hb)
    have HR := Lib.hid (HR.out.keep hb)
    have HB := Lib.hid (HB.out.trans (hb.mono HB.out.size))
    clear hb
    cases hw : toksB ts
    · obtain ⟨e1, e2⟩ := cnt_bad (rs := rs) (ts := ts) (most := most) (by unfold cokB; rw [hw, Bool.and_false]; rfl)
      have E1 := Lib.hid e1
      have E2 := Lib.hid e2
      clear e1 e2 hw
      go_wp2_with fail
      go_returns
      rw [E1.out, E2.out]
      exact ⟨rfl, HB.out⟩
    · have HW := Lib.hid hw
      clear hw
      by_cases m0 : most < 0
      · obtain ⟨e1, e2⟩ := cnt_bad (rs := rs) (ts := ts) (most := most) (by unfold cokB; rw [decide_eq_false (show ¬ 0 ≤ most by omega), Bool.false_and, Bool.and_false])
        have E1 := Lib.hid e1
        have E2 := Lib.hid e2
        clear e1 e2
        go_wp2_with fail
        go_returns
        rw [E1.out, E2.out]
        exact ⟨rfl, HB.out⟩
      by_cases m1 : 1000000000 < most
      · obtain ⟨e1, e2⟩ := cnt_bad (rs := rs) (ts := ts) (most := most) (by unfold cokB; rw [decide_eq_false (show ¬ most ≤ 1000000000 by omega), Bool.and_false, Bool.and_false])
        have E1 := Lib.hid e1
        have E2 := Lib.hid e2
        clear e1 e2
        go_wp2_with fail
        go_returns
        rw [E1.out, E2.out]
        exact ⟨rfl, HB.out⟩
      obtain ⟨e1, e2⟩ := cnt_good (rs := rs) (ts := ts) (most := most) (by unfold cokB; rw [HV.out, HW.out, decide_eq_true (show 0 ≤ most by omega), decide_eq_true (show most ≤ 1000000000 by omega)]; rfl)
      have E1 := Lib.hid e1
      have E2 := Lib.hid e2
      clear e1 e2
      have hrl : rs.length ≤ 64 := by have := HV.out; unfold validB at this; rw [Bool.and_eq_true] at this; exact of_decide_eq_true this.1
      have htl : ts.length ≤ 200 := by have := HW.out; unfold toksB at this; rw [Bool.and_eq_true] at this; exact of_decide_eq_true this.1
      by_cases h0 : ts.length = 0
      · have h0' : ((ts.length : Int) == 0) = true := by rw [h0]; rfl
        have HZ := Lib.hid (show min ((allR rs ts 0 ts.length).length : Int) most = 0 by rw [h0, all_none (Nat.le_refl _)]; simp; omega)
        clear h0
        go_wp2_with fail
        go_returns
        rw [E1.out, E2.out, HZ.out]
        exact ⟨rfl, HB.out⟩
      · have h0' : ((ts.length : Int) == 0) = false := by rw [beq_eq_false_iff_ne]; omega
        have h1 : 0 < ts.length := by omega
        clear h0
        go_wp2_with fail
        refine (newCounter_any A T cap cT rs ts _ HV.out HR.out HT.out (by omega) (by omega)).mono ?_
        rintro e w3 ⟨g, F, gc, rows, rfl, hTab, hb⟩
        have HTab := Lib.hid hTab
        have HB := Lib.hid (HB.out.trans (hb.mono HB.out.size))
        clear HR HT hb hTab
        go_wp2_with fail
        refine (total_any g F rs ts gc rows _ 0 ts.length 0 _ HTab.out h1 (Nat.le_refl _) (by simp [h1])).mono ?_
        rintro e w4 ⟨rfl, hb⟩
        rw [least_zero HV.out]
        have HB := Lib.hid (HB.out.trans (hb.mono HB.out.size))
        clear hb HTab
        have HZ := Lib.hid (show min ((min (allR rs ts 0 ts.length).length 1000000000 : Nat) : Int) most = min ((allR rs ts 0 ts.length).length : Int) most by omega)
        go_wp2_with fail
        go_returns
        rw [E1.out, E2.out, ← HZ.out]
        exact ⟨rfl, HB.out⟩
end
section
open Go.RowKit
theorem BytsAt.keep {w w' : World} {A : Option Addr} {ps : List Nat} (h : BytsAt w A ps) (hb : Below w.heap.size w w') : BytsAt w' A ps := fun j b hj => by
  obtain ⟨hf, ad, hA, hlt, hc⟩ := h j b hj
  exact ⟨hf, ad, hA, Nat.lt_of_lt_of_le hlt hb.size, (hb.cell (by rw [add_block]; exact hlt)).trans hc⟩
/-- while a rule is appended -/
def InvRI (w1 : World) (v : Value) (l : List Rul) (u : Rul) : List Bool → Nat × Value → World → Prop
  | [bb, ba], gx, wq => Below w1.heap.size w1 wq ∧ (bb = true → ba = false → Blk wq gx.1 41 u.c) ∧ (ba = false → OwnU wq w1.heap.size v l) ∧ (ba = true → OwnU wq w1.heap.size gx.2 (l ++ [u]))
  | _, _, _ => False
theorem OwnU.keep {w w' : World} {B : Nat} {v : Value} {l : List Rul} (h : OwnU w B v l) (hb : Below w.heap.size w w') : OwnU w' B v l := World.ownsRow.kept (row := none) h ⟨hb.os, hb.tape, hb.output, hb.size, fun i hi _ => hb.block i hi⟩ (by cases v.ownBlock <;> simp)
theorem OwnU.nil (w : World) (B : Nat) : OwnU w B (.slice none 0 0) [] := ⟨rfl, .inl ⟨rfl, rfl⟩⟩
theorem OwnS.keep {w w' : World} {B : Nat} {v : Value} {l : List ByteArray} (h : OwnS w B v l) (hb : Below w.heap.size w w') : OwnS w' B v l := World.ownsRow.kept (row := none) h ⟨hb.os, hb.tape, hb.output, hb.size, fun i hi _ => hb.block i hi⟩ (by cases v.ownBlock <;> simp)
theorem ruls_single (u : Rul) : rulsL [u] = u.c.toList := by unfold rulsL; simp
theorem rul_one {u : Rul} : ∀ v ∈ u.c.toList, v.oneCell' = true := by rw [← ruls_single]; exact ruls_one
theorem sym_fits (i : Nat) : (symA i).size ≤ 9223372036854775807 := by
  unfold symA
  rw [ByteArray.size_extract]
  have : symS.size = 8 := rfl
  omega
theorem nam_fits (i : Nat) : (namA i).size ≤ 9223372036854775807 := by
  unfold namA
  rw [ByteArray.size_append, ByteArray.size_extract]
  have h1 : letS.size = 8 := rfl
  have h2 : (⟨#[111, 112]⟩ : ByteArray).size = 2 := rfl
  omega
theorem rulI_fits {ps : List Nat} : ∀ r ∈ rsI ps, r.fits := by
  intro r hr
  obtain ⟨i, hi⟩ := List.mem_iff_getElem?.1 hr
  obtain ⟨hl, rfl⟩ := rsI_of hi
  exact ⟨sym_fits i, nam_fits i⟩
theorem tsI_fits {n : Nat} {os : List Nat} : ∀ s ∈ tsI n os, s.size ≤ 9223372036854775807 := by
  intro s hs
  unfold tsI at hs
  have hop : opA.size ≤ 9223372036854775807 := by have : opA.size = 1 := rfl; omega
  rcases List.mem_cons.1 hs with rfl | hs
  · exact hop
  · obtain ⟨o, _, hs⟩ := List.mem_flatMap.1 hs
    simp only [List.mem_cons, List.not_mem_nil, or_false] at hs
    rcases hs with rfl | rfl
    · exact sym_fits _
    · exact hop
theorem infix_read {rs : List Rul} {ts : List ByteArray} {x : Rd} (hv : validB rs = true) (ht : toksB ts = true) (h : allR rs ts 0 ts.length = [x]) : readL rs ts = [x] ∧ okI rs ts = 0 ∧ cntN rs ts 5 = 1 ∧ cntE rs ts 5 = 0 := by
  have h1 : (validB rs && toksB ts) = true := by rw [hv, ht]; rfl
  obtain ⟨h3, h4⟩ := cnt_good (rs := rs) (ts := ts) (most := 5) (by unfold cokB; rw [h1]; rfl)
  refine ⟨?_, read_ok h1, ?_, h4⟩
  · rw [readL_all]
    unfold allL
    rw [if_pos h1, h]
    rfl
  · rw [h3, h]
    rfl
theorem Addr.add_zero9 (p : Addr) : p.add 0 = p := by unfold Addr.add; simp
def oI (ps os : List Nat) (j : Nat) : Nat := os.getD j 0 % ps.length
theorem reads_two {w : World} {g : Nat} {t : TypeId} {a b : Value} (h : Blk w g t #[a, b]) : Reads w w.heap.size 1 (some ⟨g, 0, none⟩) 2 [a, b] := by
  refine ⟨rfl, fun _ => ⟨_, rfl, h.lt, fun j u hj => ?_⟩⟩
  rw [show (⟨g, 0, none⟩ : Addr).add j = ⟨g, j, none⟩ by unfold Addr.add; split <;> simp_all, h.cell]
  match j, hj with
  | 0, hj => simpa using hj
  | 1, hj => simpa using hj
  | j + 2, hj => simp at hj
set_option maxRecDepth 100000 in
set_option maxHeartbeats 8000000 in
theorem infix_walk (A O : Option Addr) (cap cO : Nat) (ps os : List Nat) (w : World) (hA : BytsAt w A ps) (hO : BytsAt w O os) : Calls Try.prog 9 #[.slice A ps.length cap, .slice O os.length cO] w fun e w' => e = .returned (.bool true) ∧ Below w.heap.size w w' := by
  obtain ⟨i0, hi, hz0, hz1, hz2⟩ := info_parts info_rul
  have HP := Lib.hid hA
  have HO := Lib.hid hO
  clear hA hO
  go_enter Try.func9, Try.ntmps9
  go_wp2_with fail
  refine (awake_any _).mono ?_
  rintro e w1 ⟨rfl, hb⟩
  have HB := Lib.hid hb
  have HP := Lib.hid (HP.out.keep hb)
  have HO := Lib.hid (HO.out.keep hb)
  clear hb
  by_cases h0 : ps.length = 0
  · have h0' : ((ps.length : Int) == 0) = true := by rw [h0]; rfl
    clear h0
    go_wp2_with fail
    go_ret
    exact ⟨rfl, HB.out⟩
  have h0' : ((ps.length : Int) == 0) = false := by rw [beq_eq_false_iff_ne]; omega
  by_cases h8 : 8 < ps.length
  · have h8' : (8 : Int) < (ps.length : Int) := by omega
    go_wp2_with fail
    go_ret
    exact ⟨rfl, HB.out⟩
  have h8' : ¬ (8 : Int) < (ps.length : Int) := by omega
  by_cases h30 : 30 < os.length
  · have h30' : (30 : Int) < (os.length : Int) := by omega
    go_wp2_with fail
    go_ret
    exact ⟨rfl, HB.out⟩
  have h30' : ¬ (30 : Int) < (os.length : Int) := by omega
  go_wp2_with fail
  clear h0' h8' h30'
  have HS0 := Lib.hid (Nat.le_refl w1.heap.size)
  go_loopw [5, 6] (fun v t wr => ∃ k : Nat, k ≤ ps.length ∧ t = .int .i64 k ∧ Hid (OwnU wr w1.heap.size v ((rsI ps).take k)) ∧ Hid (Below w1.heap.size w1 wr)) (fun _ t _ => ps.length - (intOf t).toNat)
  case atStart => exact ⟨0, by omega, rfl, by rw [List.take_zero]; exact Lib.hid (OwnU.nil _ _), Lib.hid (Below.refl _ _)⟩
  case round =>
    obtain ⟨k, hk, rfl, HU, HB1⟩ := hrel
    by_cases hlt : k < ps.length
    · obtain ⟨b, hbk⟩ : ∃ b, ps[k]? = some b := ⟨_, List.getElem?_eq_getElem hlt⟩
      obtain ⟨hb256, ad, rfl, had, d0⟩ := (HP.out.keep HB1.out) k b hbk
      have HTK := Lib.hid (rsI_take hlt)
      have HPR := Lib.hid (show prI ps k = 1 + ((b % 100 : Nat) : Int) by unfold prI; rw [List.getD_eq_getElem?_getD, hbk]; rfl)
      have hr100 : b % 100 < 100 := Nat.mod_lt _ (by omega)
      have j1 : (k : Int) < (ps.length : Int) := by omega
      clear hbk had
      go_upto_region 10 with (fail)
      clear d0
      generalize b % 100 = r at *
      refine region_ghostE (X := Nat × Value) (by kernel_rfl) [true, false, false, false, false, false, false, false, false, false, false, false, false, false, false, false, false, false] _ (fun gx => [u5, .int .i64 (↑k), .int .i64 (↑k), .int .i64 ((k : Nat) + 1), .string (symA k), .int .i64 (↑k), .int .i64 (↑k), .int .i64 ((k : Nat) + 1), .string (letS.extract k (k + 1)), .string (namA k), .int .i64 (1 + (r : Int)), .int .i64 (1 + (r : Int)), .int .i64 (1 + (r : Int)), .int .i64 ((1 + (r : Int)) + 1), .agg (rulI k (1 + (r : Int))).c, .slice (some ⟨gx.1, 0, none⟩) 1 1, gx.2, gx.2]) [true, true, true, true, true, true, true, true, true, true, true, true, true, true, true, true, true, true] [15, 16] (InvRI w1 u5 ((rsI ps).take k) (rulI k (1 + (r : Int)))) (0, .nilFunc) (by kernel_rfl) (fun gx => by simp [fin, finOn, dstAt, List.range, List.range.loop, Act.put]; rfl) (fun _ => by kernel_rfl) (by kernel_rfl) ⟨below_drew HB1.out, (fun h => by cases h), (fun _ => HU.out.keep (below_drew (Below.refl _ _))), fun h => by cases h⟩ ?_ ?_
      · refine ⟨fun L gx wq hL hb ha hI => ?_, fun L gx wq hL hb ha hI => ?_, fun L gx wq hL hb ha hI => ?_, fun L gx wq hL hb ha hI => ?_, fun L gx wq hL hb ha hI => ?_, fun L gx wq hL hb ha hI => ?_, fun L gx wq hL hb ha hI => ?_, fun L gx wq hL hb ha hI => ?_, fun L gx wq hL hb ha hI => ?_, fun L gx wq hL hb ha hI => ?_, fun L gx wq hL hb ha hI => ?_, fun L gx wq hL hb ha hI => ?_, fun L gx wq hL hb ha hI => ?_, fun L gx wq hL hb ha hI => ?_, fun L gx wq hL hb ha hI => ?_, fun L gx wq hL hb ha hI => ?_, fun L gx wq hL hb ha hI => ?_, fun L gx wq hL hb ha hI => ?_, trivial⟩
        · exact Gives.plain (v := u5) (w' := wq) (by kernel_rfl) rfl hI
        · exact Gives.plain (v := .int .i64 (↑k)) (w' := wq) (by kernel_rfl) rfl hI
        · exact Gives.plain (v := .int .i64 (↑k)) (w' := wq) (by kernel_rfl) rfl hI
        · have q3 : IntKind.i64.wrap ((k : Int) + 1) = (k : Int) + 1 := IntWalk.i64_in _ (by omega)
          exact Gives.plain (v := .int .i64 ((k : Nat) + 1)) (w' := wq) (by simp [go_sem, evAct, q3]) rfl hI
        · have c1 : 0 ≤ (k : Int) + 1 ∧ (k : Int) + 1 ≤ 8 := by omega
          have c2 : (k : Int) ≤ (k : Int) + 1 := by omega
          exact Gives.plain (v := .string (symA k)) (w' := wq) (by simp [go_sem, evAct, symA, symS, c1, c2]) rfl hI
        · exact Gives.plain (v := .int .i64 (↑k)) (w' := wq) (by kernel_rfl) rfl hI
        · exact Gives.plain (v := .int .i64 (↑k)) (w' := wq) (by kernel_rfl) rfl hI
        · have q3 : IntKind.i64.wrap ((k : Int) + 1) = (k : Int) + 1 := IntWalk.i64_in _ (by omega)
          exact Gives.plain (v := .int .i64 ((k : Nat) + 1)) (w' := wq) (by simp [go_sem, evAct, q3]) rfl hI
        · have c1 : 0 ≤ (k : Int) + 1 ∧ (k : Int) + 1 ≤ 8 := by omega
          have c2 : (k : Int) ≤ (k : Int) + 1 := by omega
          exact Gives.plain (v := .string (letS.extract k (k + 1))) (w' := wq) (by simp [go_sem, evAct, letS, c1, c2]) rfl hI
        · exact Gives.plain (v := .string (namA k)) (w' := wq) (by simp [go_sem, evAct, namA, letS]; try omega) rfl hI
        · exact Gives.plain (v := .int .i64 (1 + (r : Int))) (w' := wq) (by kernel_rfl) rfl hI
        · exact Gives.plain (v := .int .i64 (1 + (r : Int))) (w' := wq) (by kernel_rfl) rfl hI
        · exact Gives.plain (v := .int .i64 (1 + (r : Int))) (w' := wq) (by kernel_rfl) rfl hI
        · have q4 : IntKind.i64.wrap ((1 + (r : Int)) + 1) = (1 + (r : Int)) + 1 := IntWalk.i64_in _ (by omega)
          exact Gives.plain (v := .int .i64 ((1 + (r : Int)) + 1)) (w' := wq) (by simp [go_sem, evAct, q4]) rfl hI
        · skip
          exact Gives.plain (v := .agg (rulI k (1 + (r : Int))).c) (w' := wq) (by simp [go_sem, evAct, rulI]) rfl hI
        · have e15 : L 15 = false := hL
          have e16 : L 16 = false := ha 16 (by kernel_rfl)
          simp only [List.map, e15, e16] at hI ⊢
          obtain ⟨h1, h2, h3, h4⟩ := hI
          have hba := bel_alloc wq (.cells (rulI k (1 + (r : Int))).c 41)
          exact Gives.value (v := .slice (some ⟨wq.heap.size, 0, none⟩) 1 1) (w' := wq.alloc (.cells (rulI k (1 + (r : Int))).c 41)) (by simp [go_sem, evAct, rulI]) ⟨(wq.heap.size, gx.2), rfl, (KeepsV.of_same ⟨.inr (.inr rfl), .inr (.inr rfl), .inr (.inr rfl), .inr (.inr rfl), .inr (.inr rfl), .inr (.inr rfl), .inr (.inr rfl), .inr (.inr rfl), .inr (.inr rfl), .inr (.inr rfl), .inr (.inr rfl), .inr (.inr rfl), .inr (.inr rfl), .inr (.inr rfl), .inr (.inr rfl), .inl rfl, (by first | exact .inr (.inr rfl) | exact .inr (.inl (by kernel_rfl))), (by first | exact .inr (.inr rfl) | exact .inr (.inl (by kernel_rfl))), trivial⟩), h1.trans (hba.mono h1.size), (fun _ _ => Blk.new _ _ _), (fun _ => (h3 rfl).keep hba), fun h => by cases h⟩
        · have e15 : L 15 = true := hb 15 (by kernel_rfl)
          have e16 : L 16 = false := hL
          simp only [List.map, e15, e16] at hI ⊢
          obtain ⟨h1, h2, h3, h4⟩ := hI
          have ho := h3 rfl
          have hlen : ((rsI ps).take k).length = k := by rw [List.length_take, rsI_len]; omega
          exact gives_append (.tmp 45) (.tmp 60) 22 rfl w1.heap.size 41 i0 (.agg #[.int .i64 0, .string ⟨#[]⟩, .string ⟨#[]⟩, .int .i64 0, .int .i64 0, .int .i64 0]) 6 64 Try.underlying22 hi hz0 hz1 hz2 rfl (by decide) _ _ _ rfl ho wq.heap.size (some ⟨gx.1, 0, none⟩) 1 1 (rulI k (1 + (r : Int))).c.toList rfl (reads_agg (h2 rfl rfl) rfl) rul_one (by unfold maxLen; omega) (by omega) h1.size (fun v' w' g2 g3 g4 => ⟨(gx.1, v'), rfl, (KeepsV.of_same ⟨.inr (.inr rfl), .inr (.inr rfl), .inr (.inr rfl), .inr (.inr rfl), .inr (.inr rfl), .inr (.inr rfl), .inr (.inr rfl), .inr (.inr rfl), .inr (.inr rfl), .inr (.inr rfl), .inr (.inr rfl), .inr (.inr rfl), .inr (.inr rfl), .inr (.inr rfl), .inr (.inr rfl), (by first | exact .inr (.inr rfl) | exact .inr (.inl (by kernel_rfl))), .inl rfl, (by first | exact .inr (.inr rfl) | exact .inr (.inl (by kernel_rfl))), trivial⟩), h1.grown g3 h1.size (fun b hb => (World.ownsRow.lt ho b hb).1), (fun _ h => by cases h), (fun h => by cases h), fun _ => OwnU.snoc rfl (by rw [ruls_single]; exact g2)⟩)
        · exact Gives.plain (v := gx.2) (w' := wq) (by kernel_rfl) rfl hI
      · intro gx wq hI
        have HU := Lib.hid (hI.2.2.2 rfl)
        have HB1 := Lib.hid hI.1
        rw [← HPR.out, ← HTK.out] at HU
        clear hI
        go_wp2_with fail
        go_roundw
        case rel => exact ⟨k + 1, by omega, by go_num, HU, HB1⟩
        case measure => simp [intOf]; omega
    · obtain rfl : k = ps.length := by omega
      rw [List.take_of_length_le (by rw [rsI_len]; exact Nat.le_refl _)] at HU
      obtain ⟨AJ, capJ, hv5, hj1, hj2, hjt⟩ := HU.out.form rulI_fits
      rw [rsI_len] at hv5 hj1
      subst hv5
      obtain ⟨adJ, rfl⟩ : ∃ ad, AJ = some ad := by
        obtain ⟨_, ad, hA, _⟩ := hjt 0 _ (rsI_at (by omega))
        exact ⟨ad, hA⟩
      have HR := Lib.hid hjt
      have HB := Lib.hid (HB.out.trans (HB1.out.mono HB.out.size))
      have HO := Lib.hid (HO.out.keep HB1.out)
      generalize wr = w2 at *
      obtain ⟨s0, hs, hy0, hy1, hy2⟩ := info_parts info_str
      have HT0 : Hid (OwnS (w2.alloc (.cells #[.string opA] 9)) w2.heap.size (.slice (some ⟨w2.heap.size, 0, none⟩) 1 1) (tsI ps.length (os.take 0))) := by
        refine Lib.hid ⟨rfl, .inr ⟨w2.heap.size, 1, #[.string opA], rfl, Nat.le_refl _, Blk.new w2 _ _, Nat.le_refl _, by unfold maxLen; omega, rfl, rfl⟩⟩
      have HX0 := Lib.hid (bel_alloc w2 (.cells #[.string opA] 9))
      have hn0 : 0 < ps.length := by omega
      clear hjt HU HB1 hi hz0 hz1 hz2 HP
      go_wp2_with fail
      go_loopw [8, 9] (fun v t wr => ∃ q : Nat, q ≤ os.length ∧ t = .int .i64 q ∧ Hid (OwnS wr w2.heap.size v (tsI ps.length (os.take q))) ∧ Hid (Below w2.heap.size w2 wr)) (fun _ t _ => os.length - (intOf t).toNat)
      case atStart => exact ⟨0, by omega, rfl, HT0, HX0⟩
      case round =>
        clear HT0 HX0
        obtain ⟨q, hq, rfl, HU, HX⟩ := hrel
        by_cases hlt : q < os.length
        · obtain ⟨o, hoq⟩ : ∃ o, os[q]? = some o := ⟨_, List.getElem?_eq_getElem hlt⟩
          obtain ⟨ho256, oad, rfl, had, d0⟩ := (HO.out.keep HX.out) q o hoq
          have HTK := Lib.hid (show tsI ps.length (os.take (q + 1)) = tsI ps.length (os.take q) ++ [symA (o % ps.length), opA] by rw [List.take_add_one, hoq]; exact tsI_snoc)
          have hkl : o % ps.length < ps.length := Nat.mod_lt _ hn0
          have hrem : (o : Int).tmod (ps.length : Int) = ((o % ps.length : Nat) : Int) := by
            rw [Int.tmod_eq_emod_of_nonneg (by omega)]; exact (Int.natCast_emod o ps.length).symm
          have hlz : ¬ (ps.length : Int) = 0 := by omega
          have HLN := Lib.hid (show (tsI ps.length (os.take q)).length = 2 * q + 1 by rw [tsI_len, List.length_take]; omega)
          generalize o % ps.length = r at *
          obtain ⟨_, adk, e9, _, c0, c1, _, _, _, _⟩ := (HR.out.keep HX.out).at_ (rsI_at hkl)
          obtain rfl := Option.some.inj e9
          replace c1 : wr.cell? ⟨(adJ.add (r * 6)).block, (adJ.add (r * 6)).off + 1, none⟩ = some (.string (symA r)) := c1
          have j1 : (q : Int) < (os.length : Int) := by omega
          have j2 : (r : Int) < (ps.length : Int) := by omega
          have hba := bel_alloc wr (.cells #[.string (symA r), .string opA] 9)
          have HU1 := Lib.hid (HU.out.keep hba)
          have HX1 := Lib.hid (HX.out.trans (hba.mono HX.out.size))
          have KN := Lib.hid (Blk.new wr 9 #[.string (symA r), .string opA])
          have hbs : w2.heap.size ≤ (wr.alloc (.cells #[.string (symA r), .string opA] 9)).heap.size := HX1.out.size
          clear hoq had e9 c0 hba
          go_wp2_with (at_builtin; refine wpList_append_any _ rfl (.tmp 69) (.tmp 82) 23 rfl w2.heap.size 9 s0 (.string ⟨#[]⟩) 1 16 Try.underlying23 hs hy0 hy1 hy2 rfl (by decide) _ _ _ rfl HU1.out (wr.heap.size + 1) (some ⟨wr.heap.size, 0, none⟩) 2 2 [.string (symA r), .string opA] rfl (by have := reads_two KN.out; rw [World.size_alloc] at this; exact this) (by intro u hu; simp at hu; rcases hu with rfl | rfl <;> rfl) (by unfold maxLen; rw [HLN.out]; omega) (by rw [HLN.out]; omega) hbs ?_); intro v' w' g2 g3 g4
          have HUN : Hid (OwnS w' w2.heap.size v' (tsI ps.length (os.take (q + 1)))) := by
            rw [HTK.out]
            exact Lib.hid (OwnS.snoc (us := [symA r, opA]) rfl g2)
          have HXN := Lib.hid (HX1.out.grown g3 HX1.out.size fun b hb => (World.ownsRow.lt HU1.out b hb).1)
          clear g2 g3 g4 hbs HU1 HX1 KN c1 d0 HU HX
          go_wp2_with fail
          go_roundw
          case rel => exact ⟨q + 1, by omega, by go_num, HUN, HXN⟩
          case measure => simp [intOf]; omega
        · obtain rfl : q = os.length := by omega
          rw [List.take_of_length_le (Nat.le_refl _)] at HU
          obtain ⟨AT, cT, hv8, ht1, ht2, htt⟩ := HU.out.form tsI_fits
          subst hv8
          obtain ⟨adT, rfl⟩ : ∃ ad, AT = some ad := by
            obtain ⟨_, ad, hA, _⟩ := htt 0 _ (tsI_opnd (q := 0) (by omega))
            exact ⟨ad, hA⟩
          have HT := Lib.hid htt
          have HR := Lib.hid (HR.out.keep HX.out)
          have HB := Lib.hid (HB.out.trans (HX.out.mono HB.out.size))
          have h8n : ps.length ≤ 8 := by omega
          have HV := Lib.hid (validI h8n)
          have HTV := Lib.hid (toksI (os := os) hn0 h8n (by omega))
          obtain ⟨x, hall, hx0, hx1⟩ := infix_all (show InfixP (rsI ps) (tsI ps.length os) os.length (oI ps os) from infixI (os := os) hn0 h8n)
          have HX0 := Lib.hid hx0
          have HX1 := Lib.hid hx1
          have HRD := Lib.hid (infix_read HV.out HTV.out hall)
          have HTL := Lib.hid (tsI_len (n := ps.length) (os := os))
          have HUQ := Lib.hid (valid_uniq HV.out)
          have hj1' : (rsI ps).length ≤ capJ := by rw [rsI_len]; exact hj1
          have h16 := read_any (some adJ) (some adT) capJ cT (rsI ps) (tsI ps.length os) wr HR.out HT.out hj1' hj2
          rw [rsI_len] at h16
          clear htt HU HX hall hx0 hx1 hs hy0 hy1 hy2 HO
          go_wp2_with fail
          refine h16.mono ?_
          clear h16
          rintro e w3 ⟨L, cl, rfl, k1, k2, hrd, hb⟩
          rw [HRD.out.1] at k1 hrd
          rw [HRD.out.1, HRD.out.2.1]
          have HL := Lib.hid (RdsAt.any hrd fun _ _ _ => trivial : RdsAt (fun _ => True) w3 L [x])
          have HB := Lib.hid (HB.out.trans (hb.mono HB.out.size))
          have HR := Lib.hid (HR.out.keep hb)
          have HT := Lib.hid (HT.out.keep hb)
          clear hb hrd
          have h17 := count_any (some adJ) (some adT) capJ cT (rsI ps) (tsI ps.length os) 5 w3 HR.out HT.out hj1' hj2
          rw [rsI_len] at h17
          go_wp2_with fail
          refine h17.mono ?_
          clear h17
          rintro e w4 ⟨rfl, hb⟩
          rw [HRD.out.2.2.1, HRD.out.2.2.2]
          have HL := Lib.hid (HL.out.keep hb)
          have HB := Lib.hid (HB.out.trans (hb.mono HB.out.size))
          have HR := Lib.hid (HR.out.keep hb)
          have HT := Lib.hid (HT.out.keep hb)
          clear hb HRD
          have HOD := Lib.hid (show ∀ j, j < os.length → oI ps os j < ps.length from fun j _ => Nat.mod_lt _ hn0)
          have HTO := Lib.hid (show ∀ j, j < os.length → (tsI ps.length os)[2 * j + 1]? = some (symA (oI ps os j)) from fun j hj => by
            have : os[j]? = some (os.getD j 0) := by rw [List.getD_eq_getElem?_getD, List.getElem?_eq_getElem hj]; rfl
            exact tsI_op this)
          have HRB := Lib.hid (show ∀ r, r < ps.length → (rsI ps)[r]? = some (rulI r (prI ps r)) from fun r hr => rsI_at hr)
          have HRN := Lib.hid (show (rsI ps).length ≤ 1000000 by rw [rsI_len]; omega)
          have HPW := Lib.hid (show ∀ (j : Nat) (wz : World), j < os.length → RulsAt wz (some adJ) (rsI ps) → Calls Try.prog 24 #[.slice (some adJ) ps.length capJ, .string (symA (oI ps os j))] wz fun e w' => e = .returned (.int .i64 (precI (rsI ps) ((oI ps os j : Nat) : Int))) ∧ Below wz.heap.size wz w' from fun j wz hj hRz => by
            have h := power_any (some adJ) capJ (rsI ps) (symA (oI ps os j)) (oI ps os j) _ wz hRz HRN.out HUQ.out (HRB.out _ (HOD.out j hj)) rfl rfl
            rw [rsI_len] at h
            exact h)
          generalize (tsI ps.length os).length = tl at *
          go_wp2_with fail
          go_loopw [15, 16] (fun v t wr => ∃ j i2 : Nat, j ≤ os.length ∧ Hid (i2 = 2 * j + 1) ∧ t = .int .i64 i2 ∧ ((j = 0 ∧ v = .int .i64 (-1)) ∨ ∃ q a2 : Nat, Hid (LastMin (fun q => precI (rsI ps) ((oI ps os q : Nat) : Int)) 0 j q) ∧ Hid (a2 = 2 * q + 1) ∧ v = .int .i64 a2) ∧ Hid (RulsAt wr (some adJ) (rsI ps)) ∧ Hid (ToksAt wr (some adT) (tsI ps.length os)) ∧ Hid (RdsAt (fun _ => True) wr L [x]) ∧ Hid (Below w.heap.size w wr)) (fun _ t _ => 2 * os.length + 1 - (intOf t).toNat)
          case atStart => exact ⟨0, 1, by omega, Lib.hid rfl, rfl, .inl ⟨rfl, rfl⟩, HR, HT, HL, HB⟩
          case round =>
            clear HR HT HL HB
            obtain ⟨j, i2, hj, HI2, rfl, hat, HR, HT, HL, HB⟩ := hrel
            by_cases hlt : j < os.length
            · have hlt2 : (i2 : Int) < (tl : Int) := by have := HTL.out; have := HI2.out; omega
              have hge2 : (0 : Int) ≤ (i2 : Int) := by omega
              have hi2b : i2 ≤ 100 := by have := HI2.out; omega
              rcases hat with ⟨rfl, rfl⟩ | ⟨q, a2, HQ, HA2, rfl⟩
              · have HQ := Lib.hid (last_one (P := fun q => precI (rsI ps) ((oI ps os q : Nat) : Int)))
                go_upto_region 24 with (fail)
                go_quiet (fail)
                have hbq := below_drewN (Below.refl wr.heap.size wr) nq
                have HL := Lib.hid (HL.out.keep hbq)
                have HB := Lib.hid (HB.out.trans (hbq.mono HB.out.size))
                have HR := Lib.hid (HR.out.keep hbq)
                have HT := Lib.hid (HT.out.keep hbq)
                clear hbq
                go_wp2_with fail
                go_roundw
                case rel => exact ⟨1, i2 + 2, by omega, Lib.hid (by have := HI2.out; omega), by go_num, .inr ⟨0, i2, HQ, HI2, rfl⟩, HR, HT, HL, HB⟩
                case measure => have := HI2.out; simp [intOf]; omega
              · have hqj := HQ.out.2.1
                have hq2 : (a2 : Int) < (tl : Int) := by have := HTL.out; have := HA2.out; omega
                have hq0 : ¬ (a2 : Int) < 0 := by omega
                have hg2 : (0 : Int) ≤ (a2 : Int) := by omega
                have HST := Lib.hid (last_step HQ.out)
                have HC0 := Lib.hid (fun e : Ext wr => Calls.ext (HPW.out j e.val hlt (HR.out.keep e.bel)))
                have HC1 := Lib.hid (fun e : Ext wr => Calls.ext (HPW.out q e.val (by omega) (HR.out.keep e.bel)))
                have ET0 := fun e : Ext wr => show e.val.cell? (adT.add i2) = some (.string (symA (oI ps os j))) from by rw [HI2.out]; obtain ⟨_, ad9, e9, _, dq⟩ := (HT.out.keep e.bel) (2 * j + 1) _ (HTO.out j hlt); obtain rfl := Option.some.inj e9; exact dq
                have ET1 := fun e : Ext wr => show e.val.cell? (adT.add a2) = some (.string (symA (oI ps os q))) from by rw [HA2.out]; obtain ⟨_, ad9, e9, _, dq⟩ := (HT.out.keep e.bel) (2 * q + 1) _ (HTO.out q (by omega)); obtain rfl := Option.some.inj e9; exact dq
                go_upto_region 24 with (fail)
                refine wp_region_ext (by kernel_rfl) (by kernel_rfl) ?_
                repeat (go_big_quiet_step (fail))
                go_big_quiet_step ((rename_i e; exact HC0.out e))
                repeat (go_big_quiet_step (fail))
                go_big_quiet_step ((rename_i e; exact HC1.out e))
                repeat (go_big_quiet_step (fail))
                refine wpQuiet_nil ?_
                intro wq hwq
                obtain ⟨⟨w9, hb⟩, e9⟩ := hwq
                dsimp only at e9
                subst e9
                have HL := Lib.hid (HL.out.keep hb)
                have HB := Lib.hid (HB.out.trans (hb.mono HB.out.size))
                have HR := Lib.hid (HR.out.keep hb)
                have HT := Lib.hid (HT.out.keep hb)
                clear hb ET0 ET1 HC0 HC1
                by_cases hcp : precI (rsI ps) ((oI ps os j : Nat) : Int) ≤ precI (rsI ps) ((oI ps os q : Nat) : Int)
                · rw [if_pos hcp] at HST
                  go_wp2_with fail
                  go_roundw
                  case rel => exact ⟨j + 1, i2 + 2, by omega, Lib.hid (by have := HI2.out; omega), by go_num, .inr ⟨j, i2, HST, HI2, rfl⟩, HR, HT, HL, HB⟩
                  case measure => have := HI2.out; simp [intOf]; omega
                · rw [if_neg hcp] at HST
                  go_wp2_with fail
                  go_roundw
                  case rel => exact ⟨j + 1, i2 + 2, by omega, Lib.hid (by have := HI2.out; omega), by go_num, .inr ⟨q, a2, HST, HA2, rfl⟩, HR, HT, HL, HB⟩
                  case measure => have := HI2.out; simp [intOf]; omega
            · obtain rfl : j = os.length := by omega
              have hlt2 : ¬ (i2 : Int) < (tl : Int) := by have := HTL.out; have := HI2.out; omega
              obtain ⟨lad, A1, k3, rfl, hlad, hxc, hxl, hxm, hxk, d0, d1, d2⟩ := HL.out.at_ (show ([x] : List Rd)[0]? = some x from rfl)
              simp only [Nat.zero_mul, Addr.add_zero9] at d0 d1 d2
              rcases hat with ⟨h00, rfl⟩ | ⟨q, a2, HQ, HA2, rfl⟩
              · have hx0 := HX0.out h00
                rw [hx0] at d0
                clear hxk hxc
                go_wp2_with fail
                go_ret
                exact ⟨rfl, HB.out⟩
              · obtain ⟨l, r, hx1, hr1⟩ := HX1.out q HQ.out
                have hq0 : ¬ (a2 : Int) < 0 := by omega
                have hq1 : (0 : Int) < (a2 : Int) := by have := HA2.out; omega
                have hkl : x.kids = [l, r] := by rw [hx1]; rfl
                rw [hkl] at d2 hxk
                obtain ⟨kd, A2, k4, rfl, hkd, _, _, _, _, f0, f1, f2⟩ := hxk.at_ (show ([l, r] : List Rd)[1]? = some r from rfl)
                simp only [Nat.one_mul] at f1
                replace f1 : wr.cell? ⟨kd.block, kd.off + 3 + 1, none⟩ = some (.int .i64 ((a2 : Int) + 1)) := by
                  have e1 : r.at_ = (a2 : Int) + 1 := by rw [hr1, HA2.out]; omega
                  rw [← e1]; exact f1
                have ha2 : a2 ≤ 100 := by have := HA2.out; have := HQ.out.2.1; omega
                clear hxc hx1 hr1 hkl f0 f2 d0 d1
                go_wp2_with fail
                go_ret
                exact ⟨rfl, HB.out⟩
end
end Go.Proofs.Ytmhddlhlniajpaa
