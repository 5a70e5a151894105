/- Plain facts on the texts of dimensions, second part: numerals of exponents, candidates. -/
import Derived.Test.YtlfapncbkgpclaaDoorP0
namespace Go.Proofs.YtlfapncbkgpclaaDoor
open Go.RowKit
def dg3 (u : Nat) : List UInt8 := if u < 10 then [UInt8.ofNat (48 + u)] else if u < 100 then [UInt8.ofNat (48 + u / 10), UInt8.ofNat (48 + u % 10)] else [UInt8.ofNat (48 + u / 100), UInt8.ofNat (48 + u / 10 % 10), UInt8.ofNat (48 + u % 10)]
theorem dec_dg3 {u : Nat} (h : u < 1000) : Lib.decDigits u = dg3 u := by
  unfold dg3
  split
  · rw [Lib.decDigits, dif_pos ‹_›]
  · rw [Lib.decDigits, dif_neg ‹_›]
    split
    · rw [Lib.decDigits, dif_pos (by omega)]; rfl
    · rw [Lib.decDigits, dif_neg (by omega), Lib.decDigits, dif_pos (by omega), Nat.div_div_eq_div_mul]; rfl
def it3 (n : Int) : List UInt8 := if n < 0 then 45 :: dg3 n.natAbs else dg3 n.toNat
theorem itoa_it3 {n : Int} (h1 : -100 ≤ n) (h2 : n ≤ 100) : Lib.itoa n = it3 n := by
  unfold Lib.itoa it3
  split
  · rw [dec_dg3 (by omega)]
  · rw [dec_dg3 (by omega)]
def expP (p : List UInt8) : Int := match Lib.atoiAll p with
  | .ok v => v
  | .range => Lib.atoiSat p
  | _ => 0
theorem all100 {p : Int → Prop} (h : ∀ i : Nat, i < 201 → p ((i : Int) - 100)) (n : Int) (h1 : -100 ≤ n) (h2 : n ≤ 100) : p n := by
  have := h (n + 100).toNat (by omega)
  rwa [show (((n + 100).toNat : Nat) : Int) - 100 = n by omega] at this
theorem expP_it {n : Int} (h1 : -100 ≤ n) (h2 : n ≤ 100) : expP (Lib.itoa n) = n := by
  rw [itoa_it3 h1 h2]
  refine all100 (p := fun n => expP (it3 n) = n) ?_ n h1 h2
  decide +kernel
theorem it_inj {m n : Int} (h1 : -100 ≤ m) (h2 : m ≤ 100) (h3 : -100 ≤ n) (h4 : n ≤ 100) (h : Lib.itoa m = Lib.itoa n) : m = n := by
  have := expP_it h1 h2
  rw [h, expP_it h3 h4] at this
  exact this.symm
theorem it_clean {n : Int} (h1 : -100 ≤ n) (h2 : n ≤ 100) : (32 : UInt8) ∉ Lib.itoa n ∧ (94 : UInt8) ∉ Lib.itoa n := by
  rw [itoa_it3 h1 h2]
  refine all100 (p := fun n => (32 : UInt8) ∉ it3 n ∧ (94 : UInt8) ∉ it3 n) ?_ n h1 h2
  decide +kernel
def findN (w : List UInt8) : Nat → Int
  | 0 => 0
  | k + 1 => if Lib.itoa (100 - (k : Int)) = w then 100 - (k : Int) else findN w k
theorem findN_it {n : Int} (h1 : -100 ≤ n) (h2 : n ≤ 100) : ∀ k : Nat, 100 - n < (k : Int) → k ≤ 201 → findN (Lib.itoa n) k = n
  | 0, h, _ => by omega
  | k + 1, h, hk => by
    unfold findN
    split
    · exact it_inj (by omega) (by omega) h1 h2 ‹_›
    · rename_i hne
      refine findN_it h1 h2 k ?_ (by omega)
      rcases Int.lt_or_le (100 - n) (k : Int) with h' | h'
      · exact h'
      · exfalso; apply hne; rw [show 100 - (k : Int) = n by omega]
def expR (ws : List (List UInt8)) : Int := match ws with
  | _ :: e :: _ => findN e 201
  | _ => 1
def D7.set (d : D7) (k : Nat) (x : Int) : D7 := ⟨if k = 0 then x else d.a0, if k = 1 then x else d.a1, if k = 2 then x else d.a2, if k = 3 then x else d.a3, if k = 4 then x else d.a4, if k = 5 then x else d.a5, if k = 6 then x else d.a6⟩
theorem D7.at_set (d : D7) (k j : Nat) (x : Int) (hk : k < 7) : (d.set k x).at j = if j = k then x else d.at j := by
  match k, hk with
  | 0, _ => match j with | 0 | 1 | 2 | 3 | 4 | 5 | 6 => simp [D7.set, D7.at] | j + 7 => simp [D7.at]
  | 1, _ => match j with | 0 | 1 | 2 | 3 | 4 | 5 | 6 => simp [D7.set, D7.at] | j + 7 => simp [D7.at]
  | 2, _ => match j with | 0 | 1 | 2 | 3 | 4 | 5 | 6 => simp [D7.set, D7.at] | j + 7 => simp [D7.at]
  | 3, _ => match j with | 0 | 1 | 2 | 3 | 4 | 5 | 6 => simp [D7.set, D7.at] | j + 7 => simp [D7.at]
  | 4, _ => match j with | 0 | 1 | 2 | 3 | 4 | 5 | 6 => simp [D7.set, D7.at] | j + 7 => simp [D7.at]
  | 5, _ => match j with | 0 | 1 | 2 | 3 | 4 | 5 | 6 => simp [D7.set, D7.at] | j + 7 => simp [D7.at]
  | 6, _ => match j with | 0 | 1 | 2 | 3 | 4 | 5 | 6 => simp [D7.set, D7.at] | j + 7 => simp [D7.at]
theorem set_c (d : D7) (k : Nat) (x : Int) (hk : k < 7) : d.c.setIfInBounds k (.int .i64 x) = (d.set k x).c := by
  match k, hk with
  | 0, _ => simp [D7.set]
  | 1, _ => simp [D7.set]
  | 2, _ => simp [D7.set]
  | 3, _ => simp [D7.set]
  | 4, _ => simp [D7.set]
  | 5, _ => simp [D7.set]
  | 6, _ => simp [D7.set]
theorem D7.eq_at {a b : D7} (h : ∀ i, i < 7 → a.at i = b.at i) : a = b := by
  have h0 := h 0 (by omega)
  have h1 := h 1 (by omega)
  have h2 := h 2 (by omega)
  have h3 := h 3 (by omega)
  have h4 := h 4 (by omega)
  have h5 := h 5 (by omega)
  have h6 := h 6 (by omega)
  cases a; cases b
  simp only [D7.at] at h0 h1 h2 h3 h4 h5 h6
  simp [*]
/-- one name compared with the first k base units -/
def updK (d : D7) (name : List UInt8) (e : Int) : Nat → D7
  | 0 => d
  | k + 1 => if (baseB k).data.toList = name then (updK d name e k).set k e else updK d name e k
def partP (p : List UInt8) : List UInt8 × Int := ((Lib.cut p [94]).1, if (Lib.cut p [94]).2.2 then expP (Lib.cut p [94]).2.1 else 1)
def partR (p : List UInt8) : List UInt8 × Int := ((splitL 94 p).headD [], expR (splitL 94 p))
def candP (ps : List (List UInt8)) : D7 := ps.foldl (fun d p => updK d (partP p).1 (partP p).2 7) D7.zero
def candR (ps : List (List UInt8)) : D7 := ps.foldl (fun d p => updK d (partR p).1 (partR p).2 7) D7.zero
theorem base_inj {i j : Nat} (hi : i < 7) (hj : j < 7) (h : (baseB i).data.toList = (baseB j).data.toList) : i = j := by
  have : ∀ i, i < 7 → ∀ j, j < 7 → (baseB i).data.toList = (baseB j).data.toList → i = j := by decide
  exact this i hi j hj h
theorem base_clean {i : Nat} (hi : i < 7) : (32 : UInt8) ∉ (baseB i).data.toList ∧ (94 : UInt8) ∉ (baseB i).data.toList ∧ (baseB i).data.toList ≠ [] ∧ (baseB i).data.toList ≠ [49] := by
  have : ∀ i, i < 7 → (32 : UInt8) ∉ (baseB i).data.toList ∧ (94 : UInt8) ∉ (baseB i).data.toList ∧ (baseB i).data.toList ≠ [] ∧ (baseB i).data.toList ≠ [49] := by decide
  exact this i hi
theorem updK_at (d : D7) (i : Nat) (e : Int) (hi : i < 7) : ∀ k, k ≤ 7 → updK d (baseB i).data.toList e k = if i < k then d.set i e else d
  | 0, _ => by simp [updK]
  | k + 1, hk => by
    unfold updK
    rw [updK_at d i e hi k (by omega)]
    by_cases h : i = k
    · subst h
      rw [if_pos rfl, if_neg (by omega), if_pos (by omega)]
    · rw [if_neg (fun e => h (base_inj (by omega) hi e).symm)]
      by_cases h2 : i < k
      · rw [if_pos h2, if_pos (by omega)]
      · rw [if_neg h2, if_neg (by omega)]
theorem updK_none (d : D7) (name : List UInt8) (e : Int) (h : ∀ i, i < 7 → (baseB i).data.toList ≠ name) : ∀ k, k ≤ 7 → updK d name e k = d
  | 0, _ => rfl
  | k + 1, hk => by
    unfold updK
    rw [if_neg (h k (by omega)), updK_none d name e h k (by omega)]
/-- a part of a text -/
def partL (i : Nat) (x : Int) : List UInt8 := if x = 1 then (baseB i).data.toList else (baseB i).data.toList ++ 94 :: Lib.itoa x
theorem partP_of {i : Nat} {x : Int} (hi : i < 7) (h1 : -100 ≤ x) (h2 : x ≤ 100) : partP (partL i x) = ((baseB i).data.toList, x) := by
  unfold partP partL
  split
  · rw [cut_miss 94 (base_clean hi).2.1]; simp [*]
  · rw [cut_hit 94 (base_clean hi).2.1]; simp [expP_it h1 h2]
theorem partR_of {i : Nat} {x : Int} (hi : i < 7) (h1 : -100 ≤ x) (h2 : x ≤ 100) : partR (partL i x) = ((baseB i).data.toList, x) := by
  unfold partR partL
  split
  · rw [splitL_none (base_clean hi).2.1]; simp [expR, *]
  · rw [splitL_app (base_clean hi).2.1, splitL_none (it_clean h1 h2).2]
    simp [expR, findN_it h1 h2 201 (by omega) (by omega)]
theorem parts_data (d : D7) (k : Nat) : (partOf k (d.at k)).map (·.data.toList) = if d.at k = 0 then [] else [partL k (d.at k)] := by
  unfold partOf partL
  split
  · rfl
  · split
    · rfl
    · simp [ByteArray.data_append]
/-- the first k exponents -/
def upto (d : D7) : Nat → D7
  | 0 => D7.zero
  | k + 1 => (upto d k).set k (d.at k)
theorem upto_at (d : D7) : ∀ k, k ≤ 7 → ∀ j, (upto d k).at j = if j < k then d.at j else 0
  | 0, _, j => by
    match j with
    | 0 | 1 | 2 | 3 | 4 | 5 | 6 => simp [upto, D7.at]
    | j + 7 => simp [D7.at]
  | k + 1, hk, j => by
    unfold upto
    rw [D7.at_set _ _ _ _ (by omega), upto_at d k (by omega)]
    by_cases h : j = k
    · subst h; rw [if_pos rfl, if_pos (by omega)]
    · rw [if_neg h]
      by_cases h2 : j < k
      · rw [if_pos h2, if_pos (by omega)]
      · rw [if_neg h2, if_neg (by omega)]
theorem upto_seven (d : D7) : upto d 7 = d := D7.eq_at fun i hi => by rw [upto_at d 7 (Nat.le_refl _), if_pos hi]
theorem fold_parts {part : List UInt8 → List UInt8 × Int} (hpart : ∀ i x, i < 7 → -100 ≤ x → x ≤ 100 → part (partL i x) = ((baseB i).data.toList, x)) (d : D7) (hd : d.ok = true) :
    ∀ k, k ≤ 7 → ((partsOf d k).map (·.data.toList)).foldl (fun d p => updK d (part p).1 (part p).2 7) D7.zero = upto d k
  | 0, _ => rfl
  | k + 1, hk => by
    have bd := ok_at hd k (by omega)
    rw [partsOf, List.map_append, List.foldl_append, fold_parts hpart d hd k (by omega), parts_data]
    split
    · rename_i h0
      refine D7.eq_at fun i hi => ?_
      rw [List.foldl_nil, upto_at d k (by omega), upto_at d (k + 1) hk]
      by_cases h : i = k
      · subst h; rw [if_neg (by omega), if_pos (by omega), h0]
      · by_cases h2 : i < k
        · rw [if_pos h2, if_pos (by omega)]
        · rw [if_neg h2, if_neg (by omega)]
    · rw [List.foldl_cons, List.foldl_nil, hpart k _ (by omega) bd.1 bd.2]
      simp only
      rw [updK_at _ k _ (by omega) 7 (by omega), if_pos (by omega)]
      rfl
theorem parts_clean (d : D7) (hd : d.ok = true) : ∀ k, k ≤ 7 → ∀ p ∈ (partsOf d k).map (·.data.toList), (32 : UInt8) ∉ p
  | 0, _, p, hp => by simp [partsOf] at hp
  | k + 1, hk, p, hp => by
    have bd := ok_at hd k (by omega)
    rw [partsOf, List.map_append, List.mem_append] at hp
    rcases hp with hp | hp
    · exact parts_clean d hd k (by omega) p hp
    · rw [parts_data] at hp
      split at hp
      · simp at hp
      · rw [List.mem_singleton] at hp
        subst hp
        unfold partL
        split
        · exact (base_clean (by omega)).1
        · simp [(base_clean (i := k) (by omega)).1, (it_clean bd.1 bd.2).1]
/-- a text is read back, by whatever reads parts as it should -/
theorem backT {part : List UInt8 → List UInt8 × Int} (hpart : ∀ i x, i < 7 → -100 ≤ x → x ≤ 100 → part (partL i x) = ((baseB i).data.toList, x)) (h1 : (part [49]).1 = [49]) (d : D7) (hd : d.ok = true) :
    (splitL 32 (textB d).data.toList).foldl (fun d p => updK d (part p).1 (part p).2 7) D7.zero = d := by
  unfold textB
  split
  · rename_i hn
    have h := fold_parts hpart d hd 7 (Nat.le_refl _)
    rw [hn, upto_seven] at h
    have e : splitL 32 [49] = [[49]] := by decide
    show (splitL 32 [49]).foldl _ _ = d
    rw [e, List.foldl_cons, List.foldl_nil, h1, updK_none _ _ _ (fun i hi => (base_clean hi).2.2.2) 7 (Nat.le_refl _)]
    exact h
  · rename_i hn
    show (splitL 32 (Lib.join ((partsOf d 7).map (·.data.toList)) [32])).foldl _ _ = d
    rw [splitL_join 32 _ (by simpa using hn) (parts_clean d hd 7 (Nat.le_refl _)), fold_parts hpart d hd 7 (Nat.le_refl _), upto_seven]
theorem backP (d : D7) (hd : d.ok = true) : candP (splitL 32 (textB d).data.toList) = d := backT (fun _ _ => partP_of) (by decide) d hd
theorem backR (d : D7) (hd : d.ok = true) : candR (splitL 32 (textB d).data.toList) = d := backT (fun _ _ => partR_of) (by decide) d hd
theorem parts_full (d : D7) : ∀ k, k ≤ 7 → ∀ p ∈ (partsOf d k).map (·.data.toList), p ≠ []
  | 0, _, p, hp => by simp [partsOf] at hp
  | k + 1, hk, p, hp => by
    rw [partsOf, List.map_append, List.mem_append] at hp
    rcases hp with hp | hp
    · exact parts_full d k (by omega) p hp
    · rw [parts_data] at hp
      split at hp
      · simp at hp
      · rw [List.mem_singleton] at hp
        subst hp
        unfold partL
        split
        · exact (base_clean (by omega)).2.2.1
        · simp
theorem join_ne {ps : List (List UInt8)} (h : ps ≠ []) (hf : ∀ p ∈ ps, p ≠ []) : Lib.join ps [32] ≠ [] := by
  cases ps with
  | nil => exact absurd rfl h
  | cons p r =>
    cases r with
    | nil => simpa [Lib.join] using hf p (by simp)
    | cons q r => simp [Lib.join]
theorem join_snoc (c : UInt8) (p : List UInt8) : ∀ {ps : List (List UInt8)}, ps ≠ [] → Lib.join (ps ++ [p]) [c] = Lib.join ps [c] ++ c :: p
  | [], h => absurd rfl h
  | [a], _ => by simp [Lib.join]
  | a :: b :: r, _ => by
    have ih := join_snoc c p (ps := b :: r) (by simp)
    have e1 : Lib.join ((a :: b :: r) ++ [p]) [c] = a ++ c :: Lib.join ((b :: r) ++ [p]) [c] := by simp [Lib.join]
    have e2 : Lib.join (a :: b :: r) [c] = a ++ c :: Lib.join (b :: r) [c] := by simp [Lib.join]
    rw [e1, ih, e2]; simp
/-- the text of the first k exponents -/
def txt (d : D7) (k : Nat) : List UInt8 := Lib.join ((partsOf d k).map (·.data.toList)) [32]
theorem txt_ne (d : D7) (k : Nat) (hk : k ≤ 7) (h : partsOf d k ≠ []) : txt d k ≠ [] := join_ne (by simpa using h) (parts_full d k hk)
theorem txt_zero (d : D7) : txt d 0 = [] := by simp [txt, partsOf, Lib.join]
theorem txt_same (d : D7) (k : Nat) (h : d.at k = 0) : txt d (k + 1) = txt d k := by unfold txt; rw [parts_zero d k h]
theorem txt_first (d : D7) (k : Nat) (h : d.at k ≠ 0) (hk : txt d k = []) (h7 : k < 7) : txt d (k + 1) = partL k (d.at k) := by
  have hn : partsOf d k = [] := by
    refine Classical.byContradiction fun hc => ?_
    exact txt_ne d k (by omega) hc hk
  unfold txt
  rw [partsOf, hn, List.nil_append, parts_data, if_neg h]
  simp [Lib.join]
theorem txt_next (d : D7) (k : Nat) (h : d.at k ≠ 0) (hk : txt d k ≠ []) : txt d (k + 1) = txt d k ++ 32 :: partL k (d.at k) := by
  have hn : (partsOf d k).map (·.data.toList) ≠ [] := by
    intro e; apply hk; unfold txt; rw [e]; rfl
  unfold txt
  rw [partsOf, List.map_append, parts_data, if_neg h, join_snoc 32 _ hn]
theorem textB_txt (d : D7) : textB d = if txt d 7 = [] then ⟨#[49]⟩ else bys (txt d 7) := by
  unfold textB
  by_cases h : partsOf d 7 = []
  · rw [if_pos h, if_pos (by unfold txt; rw [h]; rfl)]
  · rw [if_neg h, if_neg (txt_ne d 7 (Nat.le_refl _) h)]
    rfl
theorem text_ne (d : D7) : textB d ≠ ⟨#[]⟩ := by
  rw [textB_txt]
  split
  · decide
  · rename_i h
    intro e
    apply h
    have := congrArg (fun b : ByteArray => b.data.toList) e
    simpa [bys] using this
theorem txt_len (d : D7) (hd : d.ok = true) (k : Nat) (hk : k ≤ 7) : (txt d k).length ≤ 200 := by
  have h1 := part_len d hd k hk
  have h2 := parts_le d k
  unfold txt
  generalize partsOf d k = ps at *
  cases ps with
  | nil => simp [Lib.join]
  | cons x r =>
    have := lens_bound (x :: r) h1
    rw [List.map_cons] at this ⊢
    rw [Lib.join_length]
    simp only [List.length_cons, List.length_nil, List.length_map] at this h2 ⊢
    omega
theorem text_len (d : D7) (hd : d.ok = true) : (textB d).size ≤ 200 := by
  rw [textB_txt]
  split
  · decide
  · have := txt_len d hd 7 (Nat.le_refl _)
    simpa [bys, ByteArray.size] using this
/-- what Parse returns -/
def parseOf (c : D7) (s : ByteArray) : Option D7 := if c.ok = true ∧ textB c = s then some c else none
theorem parse_same (s : ByteArray) : parseOf (candP (splitL 32 s.data.toList)) s = parseOf (candR (splitL 32 s.data.toList)) s := by
  unfold parseOf
  by_cases h : (candP (splitL 32 s.data.toList)).ok = true ∧ textB (candP (splitL 32 s.data.toList)) = s
  · have e := backR _ h.1
    rw [h.2] at e
    rw [if_pos h, e, if_pos h]
  · rw [if_neg h]
    by_cases h' : (candR (splitL 32 s.data.toList)).ok = true ∧ textB (candR (splitL 32 s.data.toList)) = s
    · have e := backP _ h'.1
      rw [h'.2] at e
      rw [e] at h
      exact absurd h' h
    · rw [if_neg h']
theorem parse_text (d : D7) (hd : d.ok = true) : parseOf (candP (splitL 32 (textB d).data.toList)) (textB d) = some d := by
  unfold parseOf
  rw [backP d hd, if_pos ⟨hd, rfl⟩]
theorem parse_empty : parseOf (candP (splitL 32 [])) ⟨#[]⟩ = none := by
  unfold parseOf
  rw [if_neg (fun h => text_ne _ h.2)]
theorem candR_empty : (candR (splitL 32 [])).ok = true := by decide
end Go.Proofs.YtlfapncbkgpclaaDoor
