/- A region that draws its order and ends in a tail that waits for all else: values known beforehand for all operations but those of the tail; for every program. -/
import Derived.Test.YtpokelkneblafaaGreatDoorC0
namespace Go.Proofs.YtpokelkneblafaaGreatDoor
section
variable {P : Program} {ops : Array Oper} {Q : Exit → Act → World → Prop}
/-- is there a road of binding edges from i down to j? -/
def reach (ops : Array Oper) (j : Nat) : Nat → Nat → Bool
  | 0, _ => false
  | fuel + 1, i => match ops[i]? with
    | some o => o.after.any fun e => Region.binds .any e && (e.on == j || reach ops j fuel e.on)
    | none => false
def tailOk (ops : Array Oper) (us : List Nat) (m : Nat) : Bool := (List.range' m (ops.size - m)).all fun i => (List.range i).all fun j => us.contains j || reach ops j ops.size i
def Closed (ops : Array Oper) (L : Nat → Bool) : Prop := ∀ i o, ops[i]? = some o → L i = true → ∀ e ∈ o.after, Region.binds .any e = true → L e.on = true
theorem reach_listed {L : Nat → Bool} (hc : Closed ops L) {j : Nat} : ∀ {fuel i : Nat} {o : Oper}, ops[i]? = some o → (∀ e ∈ o.after, Region.binds .any e = true → L e.on = true) → reach ops j fuel i = true → L j = true
  | 0, _, _, _, _, h => by cases h
  | fuel + 1, i, o, ho, hL, h => by
    rw [reach, ho] at h
    obtain ⟨e, he, h2⟩ := Array.any_eq_true'.1 h
    rw [Bool.and_eq_true, Bool.or_eq_true, beq_iff_eq] at h2
    have h3 := hL e he h2.1
    rcases h2.2 with h4 | h4
    · rw [← h4]; exact h3
    · cases ho2 : ops[e.on]? with
      | none =>
        cases fuel with
        | zero => cases h4
        | succ f => rw [reach, ho2] at h4; cases h4
      | some o2 => exact reach_listed hc ho2 (hc e.on o2 ho2 h3) h4
/-- the operations below m -/
abbrev cutOps (ops : Array Oper) (m : Nat) : Array Oper := ops.extract 0 m
theorem cut_at {m i : Nat} (hi : i < m) : (cutOps ops m)[i]? = ops[i]? := by
  rw [Array.getElem?_extract]
  split
  · simp
  · rename_i h
    rw [Array.getElem?_eq_none (by omega)]
theorem cut_size {m : Nat} (h : m ≤ ops.size) : (cutOps ops m).size = m := by rw [Array.size_extract]; omega
theorem cut_dst {m i : Nat} (hi : i < m) : dstAt (cutOps ops m) i = dstAt ops i := by unfold dstAt; rw [cut_at hi]
theorem cut_yield {m g : Nat} (hg : g < m) (t : Array Value) : yielded (cutOps ops m) t g = yielded ops t g := by unfold yielded; rw [cut_at hg]
def edgesOk (ops : Array Oper) : Bool := (List.range ops.size).all fun i => match ops[i]? with
  | some o => o.after.all fun e => !Region.binds .any e || decide (e.on < i)
  | none => true
def confCut (ops : Array Oper) (m : Nat) : Bool := Region.noSelect ops && dstsOk (cutOps ops m) && ((cutOps ops m).all (operOk (cutOps ops m))) && edgesOk ops
theorem cut_wanted {m i : Nat} {o : Oper} (he : edgesOk ops = true) (hi : i < m) (ho : ops[i]? = some o) (hop : operOk (cutOps ops m) o = true) (t : Array Value) : Region.wanted o (yielded (cutOps ops m) t) = Region.wanted o (yielded ops t) := by
  unfold Region.wanted
  cases hg : o.guard with
  | none => rfl
  | some gw =>
    obtain ⟨g, want⟩ := gw
    unfold operOk at hop
    rw [Bool.and_eq_true, hg] at hop
    obtain ⟨e, hee, h2⟩ := Array.any_eq_true'.1 hop.2
    simp only [Bool.and_eq_true, beq_iff_eq] at h2
    have h3 := List.all_eq_true.1 he i (List.mem_range.2 (Array.getElem?_eq_some_iff.1 ho).1)
    rw [ho] at h3
    have h4 := Array.all_eq_true'.1 h3 e hee
    rw [h2.2] at h4
    have h5 : e.on < i := by simpa using h4
    simp only [cut_yield (ops := ops) (m := m) (g := g) (by omega)]
theorem all_listed {L : Nat → Bool} {listed : Array Bool} (hL : L = fun j => listed.getD j false) (hs : listed.size = ops.size) (hedge : edgesOk ops = true) (hr : ∀ i, i ∉ Region.ready .any ops listed) : ∀ i, i < ops.size → L i = true := by
  intro i
  subst hL
  induction i using Nat.strongRecOn with
  | _ i ih =>
    intro hi
    refine Classical.byContradiction fun hn => hr i ?_
    rw [mem_ready]
    refine ⟨?_, ops[i], Array.getElem?_eq_getElem hi, fun e he hb => ?_⟩
    · have hil : i < listed.size := by omega
      simp only [Array.getD_eq_getD_getElem?, Array.getElem?_eq_getElem hil, Option.getD_some] at hn ⊢
      simpa using hn
    · have h1 := List.all_eq_true.1 hedge i (List.mem_range.2 hi)
      rw [Array.getElem?_eq_getElem hi] at h1
      have h2 := Array.all_eq_true'.1 h1 e he
      rw [hb] at h2
      have h3 : e.on < i := by simpa using h2
      exact ih e.on h3 (by omega)
theorem closed_add {L : Nat → Bool} {i : Nat} {o : Oper} (hc : Closed ops L) (ho : ops[i]? = some o) (hb : ∀ e ∈ o.after, Region.binds .any e = true → L e.on = true) : Closed ops fun j => L j || j == i := by
  intro k o' hk hL e he hbe
  by_cases hki : k = i
  · subst hki
    obtain rfl := Option.some.inj (ho.symm.trans hk)
    show (L e.on || e.on == k) = true
    rw [hb e he hbe]; rfl
  · show (L e.on || e.on == i) = true
    rw [hc k o' hk (by simpa [hki] using hL) e he hbe]; rfl
theorem wpAny_tail {vals : Nat → Value} {a0 : Act} {Inv : World → Prop} {m : Nat} {us : List Nat} (hok : confCut ops m = true) (htail : tailOk ops us m = true) (hmn : m ≤ ops.size)
    (hstep : ∀ (i : Nat) (o : Oper) (w : World), i < m → ops[i]? = some o → Inv w →
      if Region.wanted o (yielded ops (fin (cutOps ops m) vals a0).tmps) = true then Gives P (execOp (fin (cutOps ops m) vals a0).eval o) w (fun v w' => v = vals i ∧ Inv w') else vals i = undef ∧ Inv w)
    (hend : ∀ w : World, Inv w → wpOps P ops Q (List.range' m (ops.size - m)) (fin (cutOps ops m) vals a0) w) :
    ∀ (fuel : Nat) (listed : Array Bool) (a : Act) (w : World), listed.size = ops.size → (listed.toList.countP (· == false)) ≤ fuel → Closed ops (fun j => listed.getD j false) → (∀ u ∈ us, listed.getD u false = true) →
      ((OnWay (cutOps ops m) vals a0 (fun j => listed.getD j false) a ∧ Inv w ∧ ∀ i, m ≤ i → listed.getD i false = false) ∨
       ∃ q, m ≤ q ∧ q ≤ ops.size ∧ (∀ i, i < ops.size → listed.getD i false = decide (i < q)) ∧ wpOps P ops Q (List.range' q (ops.size - q)) a w) →
      wpAny P .any ops Q fuel listed a w := by
  simp only [confCut, Bool.and_eq_true] at hok
  have hcs := cut_size (ops := ops) hmn
  obtain ⟨⟨⟨hsel, hd⟩, hall⟩, hedge⟩ := hok
  -- the tail waits for all that is ahead of it
  have wait : ∀ (listed : Array Bool) (i : Nat) (o : Oper), Closed ops (fun j => listed.getD j false) → (∀ u ∈ us, listed.getD u false = true) → m ≤ i → ops[i]? = some o → (∀ e ∈ o.after, Region.binds .any e = true → listed.getD e.on false = true) → ∀ j, j < i → listed.getD j false = true := by
    intro listed i o hc hus hmi ho hb j hj
    have hi : i < ops.size := (Array.getElem?_eq_some_iff.1 ho).1
    have h1 := List.all_eq_true.1 htail i (List.mem_range'_1.2 ⟨hmi, by omega⟩)
    have h2 := List.all_eq_true.1 h1 j (List.mem_range.2 hj)
    rw [Bool.or_eq_true] at h2
    rcases h2 with h2 | h2
    · exact hus j (by simpa using h2)
    · exact reach_listed (L := fun j => listed.getD j false) hc ho hb h2
  intro fuel
  induction fuel with
  | zero =>
    intro listed a w hs hcnt hc hus hph
    have hr : ∀ i, i ∉ Region.ready .any ops listed := by
      intro j hj
      rw [mem_ready] at hj
      obtain ⟨h0, o, hoj, _⟩ := hj
      have hjl : j < listed.size := by rw [hs]; exact (Array.getElem?_eq_some_iff.1 hoj).1
      have hf : listed[j] = false := by simpa [Array.getD_eq_getD_getElem?, Array.getElem?_eq_getElem hjl] using h0
      have : 0 < listed.toList.countP (· == false) := List.countP_pos_iff.2 ⟨false, by rw [← hf]; simp, rfl⟩
      omega
    have hL := all_listed (ops := ops) (listed := listed) rfl hs hedge hr
    refine ⟨List.eq_nil_iff_forall_not_mem.2 hr, ?_⟩
    rcases hph with ⟨ho, hI, hno⟩ | ⟨q, hq1, hq2, hq3, hq⟩
    · have hm2 : m = ops.size := by
        rcases Nat.lt_or_ge m ops.size with h | h
        · have h1 := hL m h
          rw [hno m (Nat.le_refl _)] at h1; cases h1
        · omega
      have := hend w hI
      rw [show ops.size - m = 0 by omega] at this
      rw [ho.end (fun i hi => hL i (by omega))]
      exact this
    · have hq4 : q = ops.size := by
        rcases Nat.lt_or_ge q ops.size with h | h
        · have h1 := hL q h
          rw [hq3 q h] at h1
          simp at h1
        · omega
      subst hq4
      rw [Nat.sub_self] at hq
      exact hq
  | succ fuel ih =>
    intro listed a w hs hcnt hc hus hph
    -- a first part that is all done is the tail's beginning
    have hph : (∃ j0, j0 < m ∧ listed.getD j0 false = false ∧ OnWay (cutOps ops m) vals a0 (fun j => listed.getD j false) a ∧ Inv w ∧ ∀ i, m ≤ i → listed.getD i false = false) ∨
       ∃ q, m ≤ q ∧ q ≤ ops.size ∧ (∀ i, i < ops.size → listed.getD i false = decide (i < q)) ∧ wpOps P ops Q (List.range' q (ops.size - q)) a w := by
      rcases hph with ⟨ho, hI, hno⟩ | h
      · by_cases hex : ∃ j0, j0 < m ∧ listed.getD j0 false = false
        · obtain ⟨j0, h1, h2⟩ := hex
          exact .inl ⟨j0, h1, h2, ho, hI, hno⟩
        · have hal : ∀ i, i < m → listed.getD i false = true := fun i hi => by
            cases h : listed.getD i false with
            | true => rfl
            | false => exact absurd ⟨i, hi, h⟩ hex
          refine .inr ⟨m, Nat.le_refl _, hmn, fun i hi => ?_, ?_⟩
          · by_cases him : i < m
            · rw [hal i him, decide_eq_true him]
            · rw [hno i (by omega), decide_eq_false him]
          · rw [ho.end (fun i hi => hal i (by omega))]
            exact hend w hI
      · exact .inr h
    refine ⟨fun hr => ?_, fun i hi => ?_⟩
    · have hL := all_listed (ops := ops) (listed := listed) rfl hs hedge (fun i hi => by rw [hr] at hi; cases hi)
      rcases hph with ⟨j0, h1, h2, _⟩ | ⟨q, hq1, hq2, hq3, hq⟩
      · have := hL j0 (by omega)
        rw [h2] at this; cases this
      · have hq4 : q = ops.size := by
          rcases Nat.lt_or_ge q ops.size with h | h
          · have h1 := hL q h
            rw [hq3 q h] at h1
            simp at h1
          · omega
        subst hq4
        rw [Nat.sub_self] at hq
        exact hq
    · rw [mem_ready] at hi
      obtain ⟨h0, o, hoi, hb⟩ := hi
      have hil : i < ops.size := (Array.getElem?_eq_some_iff.1 hoi).1
      have hil' : i < listed.size := by omega
      have hf : listed[i] = false := by simpa [Array.getD_eq_getD_getElem?, Array.getElem?_eq_getElem hil'] using h0
      have hLi : listed.getD i false = false := by simp [Array.getD_eq_getD_getElem?, Array.getElem?_eq_getElem hil', hf]
      have hL' : (fun j => (listed.setIfInBounds i true).getD j false) = fun j => listed.getD j false || j == i := by
        funext j
        by_cases hij : j = i
        · subst hij; simp [Array.getD_eq_getD_getElem?, hil']
        · rw [getD_set_ne false (Ne.symm hij)]; simp [hij]
      have hcount : (listed.setIfInBounds i true).toList.countP (· == false) ≤ fuel := by
        rw [Array.toList_setIfInBounds]
        have hl : i < listed.toList.length := by simpa using hil'
        have hs1 : listed.toList.countP (· == false) = (listed.toList.set i true).countP (· == false) + 1 :=
          count_set _ _ (by rw [List.getElem?_eq_getElem hl]; simpa using hf)
        omega
      have hclosed : Closed ops (fun j => (listed.setIfInBounds i true).getD j false) := by
        rw [hL']; exact closed_add hc hoi hb
      have hsize : (listed.setIfInBounds i true).size = ops.size := by simpa using hs
      have hus' : ∀ u ∈ us, (listed.setIfInBounds i true).getD u false = true := fun u hu => getD_set_true (hus u hu)
      rcases hph with ⟨j0, h1, h2, ho, hI, hno⟩ | ⟨q, hq1, hq2, hq3, hq⟩
      · have him : i < m := by
          rcases Nat.lt_or_ge i m with h | h
          · exact h
          · have := wait listed i o hc hus h hoi hb j0 (by omega)
            rw [h2] at this; cases this
        have hoi' : (cutOps ops m)[i]? = some o := (cut_at him).trans hoi
        have hoOk : operOk (cutOps ops m) o = true := by
          obtain ⟨_, hx⟩ := Array.getElem?_eq_some_iff.1 hoi'
          exact Array.all_eq_true'.1 hall o (by rw [← hx]; exact Array.getElem_mem _)
        obtain ⟨hev, hwant⟩ := ho.eval hoOk hb
        rw [cut_wanted hedge him hoi hoOk, cut_wanted hedge him hoi hoOk] at hwant
        have hexec : execOp a.eval o = execOp (fin (cutOps ops m) vals a0).eval o := execOp_congr o (fun cs b => Region.noSelect_spec hsel i o cs b hoi) hev
        have hst := hstep i o w him hoi hI
        have hdst : o.dst = dstAt (cutOps ops m) i := by unfold dstAt; rw [hoi']; rfl
        have next : ∀ w', Inv w' → wpAny P .any ops Q fuel (listed.setIfInBounds i true) (a.put o.dst (vals i)) w' := by
          intro w' hI'
          refine ih _ _ w' hsize hcount hclosed hus' (.inl ⟨?_, hI', fun k hk => ?_⟩)
          · rw [hL', hdst]
            exact ho.put hd i (by omega) hLi
          · rw [getD_set_ne false (by omega)]
            exact hno k hk
        unfold wpOp
        simp only [hoi]
        rw [hwant]
        by_cases hw : Region.wanted o (yielded ops (fin (cutOps ops m) vals a0).tmps) = true
        · rw [if_pos hw] at hst ⊢
          refine .inl (Gives.wp (R := fun v w' => v = vals i ∧ Inv w') (by rw [hexec]; exact hst) ?_)
          rintro v w' ⟨rfl, hI'⟩
          exact next w' hI'
        · rw [if_neg hw] at hst ⊢
          rw [← hst.1]
          exact next w hst.2
      · have hiq : i = q := by
          have hq5 := hq3 i hil
          rw [hLi] at hq5
          have hge : q ≤ i := by
            have := of_decide_eq_false hq5.symm
            omega
          rcases Nat.lt_or_ge q i with h | h
          · have h3 := wait listed i o hc hus (by omega) hoi hb q h
            rw [hq3 q (by omega)] at h3
            simp at h3
          · omega
        subst hiq
        rw [show ops.size - i = (ops.size - (i + 1)) + 1 by omega, List.range'_succ, wpOps_cons] at hq
        refine wpOp_mono (fun a' w' h => ?_) hq
        refine ih _ a' w' hsize hcount hclosed hus' (.inr ⟨i + 1, by omega, by omega, fun k hk => ?_, h⟩)
        have e : (listed.setIfInBounds i true).getD k false = (listed.getD k false || k == i) := congrFun hL' k
        rw [e, hq3 k hk]
        by_cases hki : k = i
        · subst hki; simp
        · by_cases hlt : k < i
          · rw [decide_eq_true hlt, decide_eq_true (by omega)]; rfl
          · rw [decide_eq_false hlt, decide_eq_false (by omega)]; simp [hki]
/-- operations without effect that are taken ahead of all others, with their values -/
def Takes (P : Program) (ops : Array Oper) : List (Nat × Value) → Array Bool → Act → Prop
  | [], _, _ => True
  | (i, v) :: us, listed, a => (∃ o, ops[i]? = some o ∧ Region.free .any ops listed i = true ∧ (Region.ready .any ops listed).contains i = true ∧ Yields P ops o v a) ∧ Takes P ops us (listed.setIfInBounds i true) (a.put (dstAt ops i) v)
def tookL : List (Nat × Value) → Array Bool → Array Bool
  | [], listed => listed
  | (i, _) :: us, listed => tookL us (listed.setIfInBounds i true)
def tookA (ops : Array Oper) : List (Nat × Value) → Act → Act
  | [], a => a
  | (i, v) :: us, a => tookA ops us (a.put (dstAt ops i) v)
theorem wpAny_takes (hsel : Region.noSelect ops = true) (hQ : ∀ c a w d v, Q (.panic c) (Act.put a d v) w → Q (.panic c) a w) : ∀ (us : List (Nat × Value)) (fuel : Nat) (listed : Array Bool) (a : Act) (w : World), Takes P ops us listed a → wpAny P .any ops Q fuel (tookL us listed) (tookA ops us a) w → wpAny P .any ops Q (fuel + us.length) listed a w
  | [], _, _, _, _, _, h => h
  | (i, v) :: us, fuel, _, _, w, ⟨⟨o, h1, h2, h3, h4⟩, h5⟩, h => by
    have hd : o.dst = dstAt ops i := by unfold dstAt; rw [h1]; rfl
    exact wpAny_take (fuel := fuel + us.length) h1 hsel h2 h3 (fun c a w => hQ c a w o.dst v) h4 (by rw [hd]; exact wpAny_takes hsel hQ us fuel _ _ w h5 h)
/-- THE LAW: us: taken first; the operations below m: values known beforehand; the others: the tail, in its order -/
theorem region_tail {id : Nat} {a0 : Act} {w0 : World} (hm : P.follows .mixedOrders = true) (hQ : ∀ c a w d v, Q (.panic c) (Act.put a d v) w → Q (.panic c) a w) (us : List (Nat × Value)) (m : Nat) (F : Act) (vs : List Value) (bs : List Bool) (Inv : World → Prop) (hok : confCut ops m = true) (hT : Takes P ops us (Array.replicate ops.size false) a0)
    (htail : tailOk ops (us.map (·.1)) m = true) (hmn : decide (m ≤ ops.size) = true)
    (hstart : ((List.range ops.size).all fun i => (tookL us (Array.replicate ops.size false)).getD i false == (us.map (·.1)).contains i) = true)
    (hus : (us.all fun u => decide (u.1 < m)) = true) (hfree : ((List.range ops.size).all fun i => !(us.map (·.1)).contains i || ((ops[i]?).map fun o => o.after.isEmpty).getD true) = true)
    (hlen : decide (us.length ≤ ops.size) = true) (hcount : decide ((tookL us (Array.replicate ops.size false)).toList.countP (· == false) ≤ ops.size - us.length) = true)
    (hA : tookA ops us a0 = finOn (cutOps ops m) (fun i => vs.getD i undef) a0 (us.map (·.1)))
    (hF : fin (cutOps ops m) (fun i => vs.getD i undef) a0 = F)
    (hw : ((List.range m).map fun i => ((ops[i]?).map fun o => Region.wanted o (yielded ops F.tmps)).getD true) = bs) (h0 : Inv w0.drew) (hE : Each P F Inv (ops.toList.take m) vs bs) (hend : ∀ w : World, Inv w → wpOps P ops Q (List.range' m (ops.size - m)) F w) : (Code.region id ops true).wp P Q a0 w0 := by
  subst hF
  have hok' := hok
  simp only [confCut, Bool.and_eq_true] at hok'
  obtain ⟨⟨⟨hsel, hd⟩, _⟩, _⟩ := hok'
  have hmn' : m ≤ ops.size := of_decide_eq_true hmn
  have hcs := cut_size (ops := ops) hmn'
  have hlen' : us.length ≤ ops.size := of_decide_eq_true hlen
  have hum : ∀ u ∈ us.map (·.1), u < m := by
    intro u hu
    obtain ⟨x, hx, rfl⟩ := List.mem_map.1 hu
    exact of_decide_eq_true (List.all_eq_true.1 hus x hx)
  have hsz : ∀ (us : List (Nat × Value)) (l : Array Bool), (tookL us l).size = l.size := by
    intro us
    induction us with
    | nil => intro l; rfl
    | cons u us ih => intro l; obtain ⟨i, v⟩ := u; rw [tookL, ih]; simp
  have hsize : (tookL us (Array.replicate ops.size false)).size = ops.size := by rw [hsz]; simp
  have hL : ∀ i, (tookL us (Array.replicate ops.size false)).getD i false = (us.map (·.1)).contains i := by
    intro i
    rcases Nat.lt_or_ge i ops.size with h | h
    · simpa using List.all_eq_true.1 hstart i (List.mem_range.2 h)
    · rw [Array.getD_eq_getD_getElem?, Array.getElem?_eq_none (by omega)]
      symm
      rw [Option.getD_none, Bool.eq_false_iff]
      intro hc
      have := hum i (by simpa using hc)
      omega
  refine wp_region_any hm ?_
  have key := wpAny_takes (P := P) (Q := Q) hsel hQ us (ops.size - us.length) (Array.replicate ops.size false) a0 { w0 with drawn := w0.drawn + 1 } hT
  rw [show (ops.size - us.length) + us.length = ops.size by omega] at key
  refine key ?_
  refine wpAny_tail (vals := fun i => vs.getD i undef) (a0 := a0) (Inv := Inv) (us := us.map (·.1)) hok htail hmn' (fun i o w him ho hI => ?_) hend _ _ _ _ hsize (of_decide_eq_true hcount) ?_ (fun u hu => ?_) (.inl ⟨?_, h0, fun i hi => ?_⟩)
  · obtain ⟨b, hb, hh⟩ := hE.at_ (i := i) (o := o) (by rw [List.getElem?_take, if_pos him, Array.getElem?_toList]; exact ho)
    rw [← hw, List.getElem?_map, List.getElem?_range him] at hb
    simp only [Option.map_some, ho, Option.getD_some, Option.some.injEq] at hb
    have := hh w hI
    rw [← hb] at this
    exact this
  · intro i o ho h e he
    have h : (tookL us (Array.replicate ops.size false)).getD i false = true := h
    rw [hL i] at h
    have hi : i < ops.size := (Array.getElem?_eq_some_iff.1 ho).1
    have h2 := List.all_eq_true.1 hfree i (List.mem_range.2 hi)
    rw [h, ho] at h2
    have h3 : o.after.isEmpty = true := by simpa using h2
    rw [Array.isEmpty_iff] at h3
    rw [h3] at he
    simp at he
  · rw [hL u]
    simpa using hu
  · rw [hA]
    refine ⟨(finOn_frame _ _ a0).1, (finOn_frame _ _ a0).2, fun i t hit hi => ?_, fun t ht => ?_⟩
    · have hi : (tookL us (Array.replicate ops.size false)).getD i false = true := hi
      rw [hL i] at hi
      have hmem : i ∈ us.map (·.1) := by simpa using hi
      by_cases hl : t < a0.tmps.size
      · rw [fin_at hd hit hl, finOn_at _ hd t i hit _ a0 hmem (fun j hj => by have := hum j hj; omega) hl]
      · rw [Array.getElem?_eq_none (by rw [(finOn_frame _ _ a0).1]; exact Nat.le_of_not_lt hl)]
        exact (Array.getElem?_eq_none (show (finOn (cutOps ops m) _ a0 (List.range (cutOps ops m).size)).tmps.size ≤ t by rw [(finOn_frame _ _ a0).1]; exact Nat.le_of_not_lt hl)).symm
    · refine finOn_other _ t _ a0 fun i hi => ht i ?_
      show (tookL us (Array.replicate ops.size false)).getD i false = true
      rw [hL i]
      simpa using hi
  · rw [hL i, Bool.eq_false_iff]
    intro hc
    have := hum i (by simpa using hc)
    omega
theorem wpOps_step {i : Nat} {l : List Nat} {o : Oper} {a : Act} {w : World} (ho : ops[i]? = some o) (hg : o.guard = none) (h : o.wp P a w (wpOps P ops Q l) Q) : wpOps P ops Q (i :: l) a w := by
  rw [wpOps_cons]
  unfold wpOp
  simp only [ho]
  rw [if_pos (by simp [Region.wanted, hg])]
  exact .inl h
end
end Go.Proofs.YtpokelkneblafaaGreatDoor
