/- Lists of strings that a call has made. -/
import Derived.Test.YtmhddlhlniajpaaCM
namespace Go.Proofs.Ytmhddlhlniajpaa
open Go.RowKit
theorem info_str : (Try.prog.info? 9).map (fun i => (i.zero, i.size, i.bytes)) = some (some (.string ⟨#[]⟩), 1, 16) := by kernel_rfl
/-- tokens that this call has made -/
def OwnS (w : World) (B : Nat) (v : Value) (ts : List ByteArray) : Prop := w.ownsRow B 9 1 v ts.length (ts.map Value.string)
theorem OwnS.snoc {w : World} {B n : Nat} {v : Value} {ts us : List ByteArray} (hn : ts.length = n) (h : w.ownsRow B 9 1 v (n + us.length) (ts.map Value.string ++ us.map Value.string)) : OwnS w B v (ts ++ us) := by
  unfold OwnS
  rw [List.length_append, hn, List.map_append]
  exact h
theorem OwnS.form {w : World} {B : Nat} {v : Value} {ts : List ByteArray} (h : OwnS w B v ts) (hf : ∀ s ∈ ts, s.size ≤ 9223372036854775807) : ∃ A cap, v = .slice A ts.length cap ∧ ts.length ≤ cap ∧ cap ≤ 9223372036854775807 ∧ ToksAt w A ts := by
  obtain ⟨h1, h2⟩ := h
  rcases h2 with ⟨rfl, h0⟩ | ⟨g, cap, cur, rfl, hg, hb, hn, hc, hs, ht⟩
  · obtain rfl : ts = [] := List.length_eq_zero_iff.1 h0
    exact ⟨none, 0, rfl, by simp, by omega, fun j p hj => by simp at hj⟩
  · have hb' : Blk w g 9 cur := hb
    refine ⟨_, cap, rfl, hn, by unfold maxLen at hc; omega, fun j p hj => ⟨hf p (List.mem_of_getElem? hj), ⟨g, 0, none⟩, rfl, hb'.lt, ?_⟩⟩
    rw [show (⟨g, 0, none⟩ : Addr).add j = ⟨g, j, none⟩ by unfold Addr.add; split <;> simp_all, hb'.cell]
    have h3 : (ts.map Value.string)[j]? = some (.string p) := by simp [hj]
    rw [← ht, List.getElem?_take] at h3
    split at h3
    · simpa using h3
    · cases h3
theorem reads_toks {w : World} {A : Option Addr} {ts : List ByteArray} (h : ToksAt w A ts) {k : Nat} (hk : k ≤ ts.length) : Reads w w.heap.size 1 A k ((ts.take k).map Value.string) := by
  refine ⟨by rw [List.length_map, List.length_take]; omega, fun h0 => ?_⟩
  obtain ⟨s, hs⟩ : ∃ s, ts[0]? = some s := ⟨_, List.getElem?_eq_getElem (by omega)⟩
  obtain ⟨_, ad, rfl, hlt, _⟩ := h 0 s hs
  refine ⟨ad, rfl, hlt, fun j u hj => ?_⟩
  rw [List.getElem?_map] at hj
  cases hc : (ts.take k)[j]? with
  | none => rw [hc] at hj; cases hj
  | some s' =>
    rw [hc] at hj
    obtain rfl := Option.some.inj hj
    rw [List.getElem?_take] at hc
    split at hc
    · obtain ⟨_, ad', e, _, hcell⟩ := h j s' hc
      obtain rfl := Option.some.inj e
      exact hcell
    · cases hc
theorem strs_one {ts : List ByteArray} : ∀ u ∈ ts.map Value.string, u.oneCell' = true := by
  intro u hu
  obtain ⟨s, _, rfl⟩ := List.mem_map.1 hu
  rfl
end Go.Proofs.Ytmhddlhlniajpaa
