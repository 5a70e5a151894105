/- The reference's list of all readings, rule by rule: plain. -/
import Derived.Test.YtmhddlhlniajpaaRP7
namespace Go.Proofs.Ytmhddlhlniajpaa
theorem part_next {g : Nat → List Rd} (a t : Nat) : (List.range' a (t + 1)).flatMap g = (List.range' a t).flatMap g ++ g (a + t) := by
  rw [List.range'_1_concat, List.flatMap_append]
  simp
/-- what an infix rule gives at one place -/
def inG (rs : List Rul) (ts : List ByteArray) (i j n : Nat) (u : Rul) (k : Nat) : List Rd := if tokB ts k u.sym.toList = true then pairsR n i (leastR rs (allR rs ts i k) u.left) (leastR rs (allR rs ts (k + 1) j) u.right) else []
/-- and a rule without a symbol -/
def juxG (rs : List Rul) (ts : List ByteArray) (i j n : Nat) (u : Rul) (k : Nat) : List Rd := pairsR n i (leastR rs (allR rs ts i k) u.left) (leastR rs (allR rs ts k j) u.right)
theorem rule_in {rs : List Rul} {ts : List ByteArray} {i j n : Nat} {u : Rul} (hu : rs[n]? = some u) (hk : u.kind = 1) : ofRule rs ts (allR rs ts) i j n = (List.range' (i + 1) (j - 1 - (i + 1))).flatMap (inG rs ts i j n u) := by
  unfold ofRule; rw [hu]; simp only [hk, if_true]; rfl
theorem rule_pre {rs : List Rul} {ts : List ByteArray} {i j n : Nat} {u : Rul} (hu : rs[n]? = some u) (hk : u.kind = 2) : ofRule rs ts (allR rs ts) i j n = if tokB ts i u.sym.toList = true then soloR n i (leastR rs (allR rs ts (i + 1) j) u.right) else [] := by
  unfold ofRule; rw [hu]; simp [hk]
theorem rule_post {rs : List Rul} {ts : List ByteArray} {i j n : Nat} {u : Rul} (hu : rs[n]? = some u) (hk : u.kind = 3) : ofRule rs ts (allR rs ts) i j n = if tokB ts (j - 1) u.sym.toList = true then soloR n i (leastR rs (allR rs ts i (j - 1)) u.left) else [] := by
  unfold ofRule; rw [hu]; simp [hk]
theorem rule_jux {rs : List Rul} {ts : List ByteArray} {i j n : Nat} {u : Rul} (hu : rs[n]? = some u) (hk : u.kind = 4) : ofRule rs ts (allR rs ts) i j n = (List.range' (i + 1) (j - (i + 1))).flatMap (juxG rs ts i j n u) := by
  unfold ofRule; rw [hu]; simp only [hk]; rfl
theorem rule_none {rs : List Rul} {ts : List ByteArray} {i j n : Nat} {u : Rul} (hu : rs[n]? = some u) (h1 : u.kind ≠ 1) (h2 : u.kind ≠ 2) (h3 : u.kind ≠ 3) (h4 : u.kind ≠ 4) : ofRule rs ts (allR rs ts) i j n = [] := by
  unfold ofRule; rw [hu]; simp [h1, h2, h3, h4]
theorem solo_next {r a : Int} {l : List Rd} {k : Nat} {x : Rd} (hx : l[k]? = some x) : soloR r a (l.take (k + 1)) = soloR r a (l.take k) ++ [.mk r a [x]] := by
  unfold soloR
  rw [List.take_add_one, hx, List.map_append]
  rfl
end Go.Proofs.Ytmhddlhlniajpaa
