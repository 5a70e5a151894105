/-
  NARROWER THAN 'FOR EVERY INPUT', by the rows' own cells (each row's printed sentence says how): ChartOrder: loops · ChartCheck: loops · ChartCompare: loops.
  DERIVED. THE GIVEN ROWS OF THIS SEAT. 8 by the template 'for every input the law returns true; each argument reads behind the call as it read before'; 0 by the template 'total and deterministic' (their statements: YtmhddlhlniajpaaTotals.lean).
  GIVEN WITH THE SEED: the statements are not yours to turn. If you find one false, say at which input.
  Laid BY PROGRAM, IN A SANDBOX (cutbox-rows.mjs): the forced cells as the released guide's own fill.sh prints them over the translation d1a75d8f13ec61e8… (all of the seat's roots in one cut). By AI agents, Wed Nov 11 2026. No macro, syntax, notation, axiom, sorry.
-/
import Derived.Test.YtmhddlhlniajpaaChecked
import GoSem.Claim
import GoSem.ClaimJoined
import GoSem.ClaimMapViews
import Derived.JoinedTies
import Derived.KernelRfl
namespace Go.Proofs.Ytmhddlhlniajpaa
/- THE CELL 'sum', in the pinned program and in every row, IS THE sha256 OF THE DUMP (.gsa) THAT YtmhddlhlniajpaaProg.lean LOADS. Nothing in Lean hashes anything: it is a label: what it is worth is what the hold of that sum in a sandbox is worth. -/
noncomputable def Try.pinned : Pinned := { name := "ytmhddlhlniajpaa", sum := "d1a75d8f13ec61e8bf47e823e52a8301556651f2f8cb8d3133bfc9bfad7c10a3", checked := Try.checked }
namespace Rows
def none {H : Type} : Left H := { results := [], args := [] }

/-- 'vinculumlaw50.ChartRead': WHATEVER THE INPUT: true; the input reads as it did. -/
def chartReadSpec : ChangeSpec := { name := "chartRead", fn := fun _ => fun
  | [d1, d2] => { results := [.lit (.bool true)], args := [d1, d2] }
  | _ => none }
def chartReadRow : OpenClaim := { program := "ytmhddlhlniajpaa", sum := "d1a75d8f13ec61e8bf47e823e52a8301556651f2f8cb8d3133bfc9bfad7c10a3", func := "vinculum/vinculumlaw50.ChartRead", spec := "chartRead", inPlace := ["internal/bytealg.IndexByteString", "internal/bytealg.IndexString"], unfollowed := true, recurses := true, named := ["internal/bytealg.MaxLen"], apart := false }
def ChartReadSaid : Prop := chartReadRow.holds Try.pinned (OpenSpec.ofChange chartReadSpec)

/-- ITS FALSE NEIGHBOUR: 'it returns false'. Refute it at one input. -/
def chartReadWrong : ChangeSpec := { name := "chartRead", fn := fun _ => fun
  | [d1, d2] => { results := [.lit (.bool false)], args := [d1, d2] }
  | _ => none }
def ChartReadWrongFalsely : Prop := chartReadRow.holds Try.pinned (OpenSpec.ofChange chartReadWrong)

/-- 'vinculumlaw50.ChartOrder': WHATEVER THE INPUT: true; the input reads as it did. -/
def chartOrderSpec : ChangeSpec := { name := "chartOrder", fn := fun _ => fun
  | [d1, d2, d3] => { results := [.lit (.bool true)], args := [d1, d2, d3] }
  | _ => none }
def chartOrderRow : OpenClaim := { program := "ytmhddlhlniajpaa", sum := "d1a75d8f13ec61e8bf47e823e52a8301556651f2f8cb8d3133bfc9bfad7c10a3", func := "vinculum/vinculumlaw50.ChartOrder", spec := "chartOrder", inPlace := ["internal/bytealg.IndexByteString", "internal/bytealg.IndexString"], unfollowed := true, recurses := true, named := ["internal/bytealg.MaxLen"], loops := true, apart := false }
def ChartOrderSaid : Prop := chartOrderRow.holds Try.pinned (OpenSpec.ofChange chartOrderSpec)

/-- ITS FALSE NEIGHBOUR: 'it returns false'. Refute it at one input. -/
def chartOrderWrong : ChangeSpec := { name := "chartOrder", fn := fun _ => fun
  | [d1, d2, d3] => { results := [.lit (.bool false)], args := [d1, d2, d3] }
  | _ => none }
def ChartOrderWrongFalsely : Prop := chartOrderRow.holds Try.pinned (OpenSpec.ofChange chartOrderWrong)

/-- 'vinculumlaw50.ChartParts': WHATEVER THE INPUT: true; the input reads as it did. -/
def chartPartsSpec : ChangeSpec := { name := "chartParts", fn := fun _ => fun
  | [d1, d2, d3] => { results := [.lit (.bool true)], args := [d1, d2, d3] }
  | _ => none }
def chartPartsRow : OpenClaim := { program := "ytmhddlhlniajpaa", sum := "d1a75d8f13ec61e8bf47e823e52a8301556651f2f8cb8d3133bfc9bfad7c10a3", func := "vinculum/vinculumlaw50.ChartParts", spec := "chartParts", inPlace := ["internal/bytealg.IndexByteString", "internal/bytealg.IndexString"], unfollowed := true, recurses := true, named := ["internal/bytealg.MaxLen"], apart := false }
def ChartPartsSaid : Prop := chartPartsRow.holds Try.pinned (OpenSpec.ofChange chartPartsSpec)

/-- ITS FALSE NEIGHBOUR: 'it returns false'. Refute it at one input. -/
def chartPartsWrong : ChangeSpec := { name := "chartParts", fn := fun _ => fun
  | [d1, d2, d3] => { results := [.lit (.bool false)], args := [d1, d2, d3] }
  | _ => none }
def ChartPartsWrongFalsely : Prop := chartPartsRow.holds Try.pinned (OpenSpec.ofChange chartPartsWrong)

/-- 'vinculumlaw50.ChartCheck': WHATEVER THE INPUT: true; the input reads as it did. -/
def chartCheckSpec : ChangeSpec := { name := "chartCheck", fn := fun _ => fun
  | [d1, d2, d3] => { results := [.lit (.bool true)], args := [d1, d2, d3] }
  | _ => none }
def chartCheckRow : OpenClaim := { program := "ytmhddlhlniajpaa", sum := "d1a75d8f13ec61e8bf47e823e52a8301556651f2f8cb8d3133bfc9bfad7c10a3", func := "vinculum/vinculumlaw50.ChartCheck", spec := "chartCheck", inPlace := ["internal/bytealg.IndexByteString", "internal/bytealg.IndexString"], unfollowed := true, recurses := true, named := ["internal/bytealg.MaxLen"], loops := true, apart := false }
def ChartCheckSaid : Prop := chartCheckRow.holds Try.pinned (OpenSpec.ofChange chartCheckSpec)

/-- ITS FALSE NEIGHBOUR: 'it returns false'. Refute it at one input. -/
def chartCheckWrong : ChangeSpec := { name := "chartCheck", fn := fun _ => fun
  | [d1, d2, d3] => { results := [.lit (.bool false)], args := [d1, d2, d3] }
  | _ => none }
def ChartCheckWrongFalsely : Prop := chartCheckRow.holds Try.pinned (OpenSpec.ofChange chartCheckWrong)

/-- 'vinculumlaw50.ChartCount': WHATEVER THE INPUT: true; the input reads as it did. -/
def chartCountSpec : ChangeSpec := { name := "chartCount", fn := fun _ => fun
  | [d1, d2, d3] => { results := [.lit (.bool true)], args := [d1, d2, d3] }
  | _ => none }
def chartCountRow : OpenClaim := { program := "ytmhddlhlniajpaa", sum := "d1a75d8f13ec61e8bf47e823e52a8301556651f2f8cb8d3133bfc9bfad7c10a3", func := "vinculum/vinculumlaw50.ChartCount", spec := "chartCount", inPlace := ["internal/bytealg.IndexByteString", "internal/bytealg.IndexString"], unfollowed := true, recurses := true, named := ["internal/bytealg.MaxLen"], apart := false }
def ChartCountSaid : Prop := chartCountRow.holds Try.pinned (OpenSpec.ofChange chartCountSpec)

/-- ITS FALSE NEIGHBOUR: 'it returns false'. Refute it at one input. -/
def chartCountWrong : ChangeSpec := { name := "chartCount", fn := fun _ => fun
  | [d1, d2, d3] => { results := [.lit (.bool false)], args := [d1, d2, d3] }
  | _ => none }
def ChartCountWrongFalsely : Prop := chartCountRow.holds Try.pinned (OpenSpec.ofChange chartCountWrong)

/-- 'vinculumlaw50.ChartCompare': WHATEVER THE INPUT: true; the input reads as it did. -/
def chartCompareSpec : ChangeSpec := { name := "chartCompare", fn := fun _ => fun
  | [d1, d2] => { results := [.lit (.bool true)], args := [d1, d2] }
  | _ => none }
def chartCompareRow : OpenClaim := { program := "ytmhddlhlniajpaa", sum := "d1a75d8f13ec61e8bf47e823e52a8301556651f2f8cb8d3133bfc9bfad7c10a3", func := "vinculum/vinculumlaw50.ChartCompare", spec := "chartCompare", inPlace := ["internal/bytealg.IndexByteString", "internal/bytealg.IndexString"], unfollowed := true, recurses := true, named := ["internal/bytealg.MaxLen"], loops := true, apart := false }
def ChartCompareSaid : Prop := chartCompareRow.holds Try.pinned (OpenSpec.ofChange chartCompareSpec)

/-- ITS FALSE NEIGHBOUR: 'it returns false'. Refute it at one input. -/
def chartCompareWrong : ChangeSpec := { name := "chartCompare", fn := fun _ => fun
  | [d1, d2] => { results := [.lit (.bool false)], args := [d1, d2] }
  | _ => none }
def ChartCompareWrongFalsely : Prop := chartCompareRow.holds Try.pinned (OpenSpec.ofChange chartCompareWrong)

/-- 'vinculumlaw50.ChartInfix': WHATEVER THE INPUT: true; the input reads as it did. -/
def chartInfixSpec : ChangeSpec := { name := "chartInfix", fn := fun _ => fun
  | [d1, d2] => { results := [.lit (.bool true)], args := [d1, d2] }
  | _ => none }
def chartInfixRow : OpenClaim := { program := "ytmhddlhlniajpaa", sum := "d1a75d8f13ec61e8bf47e823e52a8301556651f2f8cb8d3133bfc9bfad7c10a3", func := "vinculum/vinculumlaw50.ChartInfix", spec := "chartInfix", inPlace := ["internal/bytealg.IndexByteString", "internal/bytealg.IndexString"], unfollowed := true, recurses := true, named := ["internal/bytealg.MaxLen"], apart := false }
def ChartInfixSaid : Prop := chartInfixRow.holds Try.pinned (OpenSpec.ofChange chartInfixSpec)

/-- ITS FALSE NEIGHBOUR: 'it returns false'. Refute it at one input. -/
def chartInfixWrong : ChangeSpec := { name := "chartInfix", fn := fun _ => fun
  | [d1, d2] => { results := [.lit (.bool false)], args := [d1, d2] }
  | _ => none }
def ChartInfixWrongFalsely : Prop := chartInfixRow.holds Try.pinned (OpenSpec.ofChange chartInfixWrong)

/-- 'vinculumlaw50.ChartFewer': WHATEVER THE INPUT: true; the input reads as it did. -/
def chartFewerSpec : ChangeSpec := { name := "chartFewer", fn := fun _ => fun
  | [d1, d2, d3] => { results := [.lit (.bool true)], args := [d1, d2, d3] }
  | _ => none }
def chartFewerRow : OpenClaim := { program := "ytmhddlhlniajpaa", sum := "d1a75d8f13ec61e8bf47e823e52a8301556651f2f8cb8d3133bfc9bfad7c10a3", func := "vinculum/vinculumlaw50.ChartFewer", spec := "chartFewer", inPlace := ["internal/bytealg.IndexByteString", "internal/bytealg.IndexString"], unfollowed := true, recurses := true, named := ["internal/bytealg.MaxLen"], apart := false }
def ChartFewerSaid : Prop := chartFewerRow.holds Try.pinned (OpenSpec.ofChange chartFewerSpec)

/-- ITS FALSE NEIGHBOUR: 'it returns false'. Refute it at one input. -/
def chartFewerWrong : ChangeSpec := { name := "chartFewer", fn := fun _ => fun
  | [d1, d2, d3] => { results := [.lit (.bool false)], args := [d1, d2, d3] }
  | _ => none }
def ChartFewerWrongFalsely : Prop := chartFewerRow.holds Try.pinned (OpenSpec.ofChange chartFewerWrong)

/- THE SECOND FORM. 'bulk': how many values and letters a reading holds, each counted each time it is reached (what is shared counts as often as it is met; a slice's spare places count too). A statement '..UptoSaid' is the law's where the arguments, and the package variables that the reading takes, are together of bulk at most 1048576: NARROWER than '..Said'. Prove '..Said' where nothing that the law and all that it calls make is longer than what came in: it says more and counts as full. Else prove '..UptoSaid'. A law counts once. -/
mutual
def uptoBulk {H : Type} : DataW H → Nat
  | .lit (.string bytes) => bytes.length + 1
  | .lit _ => 1
  | .nil => 1
  | .ptr d => uptoBulk d + 1
  | .slice elems spare => uptoBulkAll elems + uptoBulkAll spare + 1
  | .agg parts => uptoBulkAll parts + 1
  | .iface _ d => uptoBulk d + 1
  | .map entries => uptoBulkEntries entries + 1
  | .held _ => 1
def uptoBulkAll {H : Type} : List (DataW H) → Nat
  | [] => 0
  | d :: r => uptoBulk d + uptoBulkAll r
def uptoBulkEntries {H : Type} : List (Lit × DataW H) → Nat
  | [] => 0
  | x :: r => uptoBulkEntry x + uptoBulkEntries r
def uptoBulkEntry {H : Type} : Lit × DataW H → Nat
  | (.string bytes, d) => bytes.length + uptoBulk d + 1
  | (_, d) => uptoBulk d + 1
 end
def uptoSmall : (H : Type) → List (DataW H) → Bool := fun _ ds => decide (uptoBulkAll ds ≤ 1048576)
def OpenSpec.upto (s : _root_.Go.ChangeSpec) : _root_.Go.OpenSpec := { _root_.Go.OpenSpec.ofChange s with cond := some uptoSmall }

/-- 'vinculumlaw50.ChartRead', WHERE WHAT IT READS IS OF BULK AT MOST 1048576: true; the input reads as it did. -/
def chartReadUptoRow : OpenClaim := { program := "ytmhddlhlniajpaa", sum := "d1a75d8f13ec61e8bf47e823e52a8301556651f2f8cb8d3133bfc9bfad7c10a3", func := "vinculum/vinculumlaw50.ChartRead", spec := "chartRead", inPlace := ["internal/bytealg.IndexByteString", "internal/bytealg.IndexString"], unfollowed := true, recurses := true, named := ["internal/bytealg.MaxLen"], apart := false, narrowed := true }
def ChartReadUptoSaid : Prop := chartReadUptoRow.holds Try.pinned (OpenSpec.upto chartReadSpec)

/-- 'vinculumlaw50.ChartOrder', WHERE WHAT IT READS IS OF BULK AT MOST 1048576: true; the input reads as it did. -/
def chartOrderUptoRow : OpenClaim := { program := "ytmhddlhlniajpaa", sum := "d1a75d8f13ec61e8bf47e823e52a8301556651f2f8cb8d3133bfc9bfad7c10a3", func := "vinculum/vinculumlaw50.ChartOrder", spec := "chartOrder", inPlace := ["internal/bytealg.IndexByteString", "internal/bytealg.IndexString"], unfollowed := true, recurses := true, named := ["internal/bytealg.MaxLen"], loops := true, apart := false, narrowed := true }
def ChartOrderUptoSaid : Prop := chartOrderUptoRow.holds Try.pinned (OpenSpec.upto chartOrderSpec)

/-- 'vinculumlaw50.ChartParts', WHERE WHAT IT READS IS OF BULK AT MOST 1048576: true; the input reads as it did. -/
def chartPartsUptoRow : OpenClaim := { program := "ytmhddlhlniajpaa", sum := "d1a75d8f13ec61e8bf47e823e52a8301556651f2f8cb8d3133bfc9bfad7c10a3", func := "vinculum/vinculumlaw50.ChartParts", spec := "chartParts", inPlace := ["internal/bytealg.IndexByteString", "internal/bytealg.IndexString"], unfollowed := true, recurses := true, named := ["internal/bytealg.MaxLen"], apart := false, narrowed := true }
def ChartPartsUptoSaid : Prop := chartPartsUptoRow.holds Try.pinned (OpenSpec.upto chartPartsSpec)

/-- 'vinculumlaw50.ChartCheck', WHERE WHAT IT READS IS OF BULK AT MOST 1048576: true; the input reads as it did. -/
def chartCheckUptoRow : OpenClaim := { program := "ytmhddlhlniajpaa", sum := "d1a75d8f13ec61e8bf47e823e52a8301556651f2f8cb8d3133bfc9bfad7c10a3", func := "vinculum/vinculumlaw50.ChartCheck", spec := "chartCheck", inPlace := ["internal/bytealg.IndexByteString", "internal/bytealg.IndexString"], unfollowed := true, recurses := true, named := ["internal/bytealg.MaxLen"], loops := true, apart := false, narrowed := true }
def ChartCheckUptoSaid : Prop := chartCheckUptoRow.holds Try.pinned (OpenSpec.upto chartCheckSpec)

/-- 'vinculumlaw50.ChartCount', WHERE WHAT IT READS IS OF BULK AT MOST 1048576: true; the input reads as it did. -/
def chartCountUptoRow : OpenClaim := { program := "ytmhddlhlniajpaa", sum := "d1a75d8f13ec61e8bf47e823e52a8301556651f2f8cb8d3133bfc9bfad7c10a3", func := "vinculum/vinculumlaw50.ChartCount", spec := "chartCount", inPlace := ["internal/bytealg.IndexByteString", "internal/bytealg.IndexString"], unfollowed := true, recurses := true, named := ["internal/bytealg.MaxLen"], apart := false, narrowed := true }
def ChartCountUptoSaid : Prop := chartCountUptoRow.holds Try.pinned (OpenSpec.upto chartCountSpec)

/-- 'vinculumlaw50.ChartCompare', WHERE WHAT IT READS IS OF BULK AT MOST 1048576: true; the input reads as it did. -/
def chartCompareUptoRow : OpenClaim := { program := "ytmhddlhlniajpaa", sum := "d1a75d8f13ec61e8bf47e823e52a8301556651f2f8cb8d3133bfc9bfad7c10a3", func := "vinculum/vinculumlaw50.ChartCompare", spec := "chartCompare", inPlace := ["internal/bytealg.IndexByteString", "internal/bytealg.IndexString"], unfollowed := true, recurses := true, named := ["internal/bytealg.MaxLen"], loops := true, apart := false, narrowed := true }
def ChartCompareUptoSaid : Prop := chartCompareUptoRow.holds Try.pinned (OpenSpec.upto chartCompareSpec)

/-- 'vinculumlaw50.ChartInfix', WHERE WHAT IT READS IS OF BULK AT MOST 1048576: true; the input reads as it did. -/
def chartInfixUptoRow : OpenClaim := { program := "ytmhddlhlniajpaa", sum := "d1a75d8f13ec61e8bf47e823e52a8301556651f2f8cb8d3133bfc9bfad7c10a3", func := "vinculum/vinculumlaw50.ChartInfix", spec := "chartInfix", inPlace := ["internal/bytealg.IndexByteString", "internal/bytealg.IndexString"], unfollowed := true, recurses := true, named := ["internal/bytealg.MaxLen"], apart := false, narrowed := true }
def ChartInfixUptoSaid : Prop := chartInfixUptoRow.holds Try.pinned (OpenSpec.upto chartInfixSpec)

/-- 'vinculumlaw50.ChartFewer', WHERE WHAT IT READS IS OF BULK AT MOST 1048576: true; the input reads as it did. -/
def chartFewerUptoRow : OpenClaim := { program := "ytmhddlhlniajpaa", sum := "d1a75d8f13ec61e8bf47e823e52a8301556651f2f8cb8d3133bfc9bfad7c10a3", func := "vinculum/vinculumlaw50.ChartFewer", spec := "chartFewer", inPlace := ["internal/bytealg.IndexByteString", "internal/bytealg.IndexString"], unfollowed := true, recurses := true, named := ["internal/bytealg.MaxLen"], apart := false, narrowed := true }
def ChartFewerUptoSaid : Prop := chartFewerUptoRow.holds Try.pinned (OpenSpec.upto chartFewerSpec)

end Rows
end Go.Proofs.Ytmhddlhlniajpaa
