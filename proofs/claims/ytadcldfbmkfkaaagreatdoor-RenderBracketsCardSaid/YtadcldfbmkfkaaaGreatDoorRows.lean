/-
  NARROWER THAN 'FOR EVERY INPUT', by the rows' own cells (each row's printed sentence says how): ElaborateTree: loops, laid · ElaborateWitnesses: loops, laid · RenderTree: loops, laid · RenderInverse: loops, laid · RenderMeans: loops, laid · RenderFirst: loops, laid · RenderBrackets: loops, laid.
  DERIVED. THE GIVEN ROWS OF THIS SEAT. 7 by the template 'for every input the law returns true; each argument reads behind the call as it read before'; 0 by the template 'total and deterministic' (their statements: YtadcldfbmkfkaaaGreatDoorTotals.lean).
  GIVEN WITH THE SEED: the statements are not yours to turn. If you find one false, say at which input.
  Laid BY PROGRAM, IN A SANDBOX (cutbox-rows.mjs): the forced cells as the released guide's own fill.sh prints them over the translation 9afaa8969a3ba58c… (all of the seat's roots in one cut). By AI agents, Wed Nov 11 2026. No macro, syntax, notation, axiom, sorry.
-/
import Derived.Test.YtadcldfbmkfkaaaGreatDoorChecked
import GoSem.Claim
import GoSem.ClaimJoined
import GoSem.ClaimMapViews
import Derived.JoinedTies
import Derived.KernelRfl
namespace Go.Proofs.YtadcldfbmkfkaaaGreatDoor
/- THE CELL 'sum', in the pinned program and in every row, IS THE sha256 OF THE DUMP (.gsa) THAT YtadcldfbmkfkaaaGreatDoorProg.lean LOADS. Nothing in Lean hashes anything: it is a label: what it is worth is what the hold of that sum in a sandbox is worth. -/
noncomputable def Tryz.pinned : Pinned := { name := "ytadcldfbmkfkaaagreatdoor", sum := "9afaa8969a3ba58ce8d61cdefedb8f3a92f0c1899184948af6ffb2219a01c074", checked := Tryz.checked }
namespace Rows
def none {H : Type} : Left H := { results := [], args := [] }

/- WHAT THE LISTED PACKAGE-LEVEL VARIABLES READ AS WHEN THE CALL BEGINS. Each datum BY PROGRAM (the guide's laid-datum.mjs) off the statement by which the dump's own 'gosem.cut.vars' lays the variable. In a bare row this is a premise. The card (YtadcldfbmkfkaaaGreatDoorCards.lean) ties it to the program's text. -/
def laid_math_bits_deBruijn32tab {H : Type} : DataW H := .agg [.lit (.int .u8 0), .lit (.int .u8 1), .lit (.int .u8 28), .lit (.int .u8 2), .lit (.int .u8 29), .lit (.int .u8 14), .lit (.int .u8 24), .lit (.int .u8 3), .lit (.int .u8 30), .lit (.int .u8 22), .lit (.int .u8 20), .lit (.int .u8 15), .lit (.int .u8 25), .lit (.int .u8 17), .lit (.int .u8 4), .lit (.int .u8 8), .lit (.int .u8 31), .lit (.int .u8 27), .lit (.int .u8 13), .lit (.int .u8 23), .lit (.int .u8 21), .lit (.int .u8 19), .lit (.int .u8 16), .lit (.int .u8 7), .lit (.int .u8 26), .lit (.int .u8 12), .lit (.int .u8 18), .lit (.int .u8 6), .lit (.int .u8 11), .lit (.int .u8 5), .lit (.int .u8 10), .lit (.int .u8 9)]
def laid_math_bits_deBruijn64tab {H : Type} : DataW H := .agg [.lit (.int .u8 0), .lit (.int .u8 1), .lit (.int .u8 56), .lit (.int .u8 2), .lit (.int .u8 57), .lit (.int .u8 49), .lit (.int .u8 28), .lit (.int .u8 3), .lit (.int .u8 61), .lit (.int .u8 58), .lit (.int .u8 42), .lit (.int .u8 50), .lit (.int .u8 38), .lit (.int .u8 29), .lit (.int .u8 17), .lit (.int .u8 4), .lit (.int .u8 62), .lit (.int .u8 47), .lit (.int .u8 59), .lit (.int .u8 36), .lit (.int .u8 45), .lit (.int .u8 43), .lit (.int .u8 51), .lit (.int .u8 22), .lit (.int .u8 53), .lit (.int .u8 39), .lit (.int .u8 33), .lit (.int .u8 30), .lit (.int .u8 24), .lit (.int .u8 18), .lit (.int .u8 12), .lit (.int .u8 5), .lit (.int .u8 63), .lit (.int .u8 55), .lit (.int .u8 48), .lit (.int .u8 27), .lit (.int .u8 60), .lit (.int .u8 41), .lit (.int .u8 37), .lit (.int .u8 16), .lit (.int .u8 46), .lit (.int .u8 35), .lit (.int .u8 44), .lit (.int .u8 21), .lit (.int .u8 52), .lit (.int .u8 32), .lit (.int .u8 23), .lit (.int .u8 11), .lit (.int .u8 54), .lit (.int .u8 26), .lit (.int .u8 40), .lit (.int .u8 15), .lit (.int .u8 34), .lit (.int .u8 20), .lit (.int .u8 31), .lit (.int .u8 10), .lit (.int .u8 25), .lit (.int .u8 14), .lit (.int .u8 19), .lit (.int .u8 9), .lit (.int .u8 13), .lit (.int .u8 8), .lit (.int .u8 7), .lit (.int .u8 6)]
def laid_internal_strconv_uint64pow10 {H : Type} : DataW H := .agg [.lit (.int .u64 1), .lit (.int .u64 10), .lit (.int .u64 100), .lit (.int .u64 1000), .lit (.int .u64 10000), .lit (.int .u64 100000), .lit (.int .u64 1000000), .lit (.int .u64 10000000), .lit (.int .u64 100000000), .lit (.int .u64 1000000000), .lit (.int .u64 10000000000), .lit (.int .u64 100000000000), .lit (.int .u64 1000000000000), .lit (.int .u64 10000000000000), .lit (.int .u64 100000000000000), .lit (.int .u64 1000000000000000), .lit (.int .u64 10000000000000000), .lit (.int .u64 100000000000000000), .lit (.int .u64 1000000000000000000), .lit (.int .u64 10000000000000000000)]
def laid_strconv_ErrRange {H : Type} : DataW H := .iface "*errors.errorString" (.ptr (.agg [.lit (.string [118, 97, 108, 117, 101, 32, 111, 117, 116, 32, 111, 102, 32, 114, 97, 110, 103, 101])]))
def laid_strconv_ErrSyntax {H : Type} : DataW H := .iface "*errors.errorString" (.ptr (.agg [.lit (.string [105, 110, 118, 97, 108, 105, 100, 32, 115, 121, 110, 116, 97, 120])]))

/-- 'vinculumlaw51.ElaborateTree': WHATEVER THE INPUT: true; the input reads as it did. -/
def elaborateTreeSpec : ChangeSpec := { name := "elaborateTree", fn := fun _ => fun
  | [d1, d2] => { results := [.lit (.bool true)], args := [d1, d2] }
  | _ => none }
def elaborateTreeRow : OpenClaim := { program := "ytadcldfbmkfkaaagreatdoor", sum := "9afaa8969a3ba58ce8d61cdefedb8f3a92f0c1899184948af6ffb2219a01c074", func := "vinculum/vinculumlaw51.ElaborateTree", spec := "elaborateTree", inPlace := ["internal/bytealg.IndexByteString", "internal/bytealg.IndexString"], unfollowed := true, recurses := true, named := ["internal/bytealg.MaxLen", "internal/strconv.uint64pow10", "math/bits.deBruijn32tab", "math/bits.deBruijn64tab"], loops := true, apart := false, laid := [("math/bits.deBruijn32tab", laid_math_bits_deBruijn32tab), ("math/bits.deBruijn64tab", laid_math_bits_deBruijn64tab), ("internal/strconv.uint64pow10", laid_internal_strconv_uint64pow10)] }
def ElaborateTreeSaid : Prop := elaborateTreeRow.holds Tryz.pinned (OpenSpec.ofChange elaborateTreeSpec)

/-- ITS FALSE NEIGHBOUR: 'it returns false'. Refute it at one input. -/
def elaborateTreeWrong : ChangeSpec := { name := "elaborateTree", fn := fun _ => fun
  | [d1, d2] => { results := [.lit (.bool false)], args := [d1, d2] }
  | _ => none }
def ElaborateTreeWrongFalsely : Prop := elaborateTreeRow.holds Tryz.pinned (OpenSpec.ofChange elaborateTreeWrong)

/-- 'vinculumlaw51.ElaborateWitnesses': WHATEVER THE INPUT: true; the input reads as it did. -/
def elaborateWitnessesSpec : ChangeSpec := { name := "elaborateWitnesses", fn := fun _ => fun
  | [d1, d2] => { results := [.lit (.bool true)], args := [d1, d2] }
  | _ => none }
def elaborateWitnessesRow : OpenClaim := { program := "ytadcldfbmkfkaaagreatdoor", sum := "9afaa8969a3ba58ce8d61cdefedb8f3a92f0c1899184948af6ffb2219a01c074", func := "vinculum/vinculumlaw51.ElaborateWitnesses", spec := "elaborateWitnesses", inPlace := ["internal/bytealg.IndexByteString", "internal/bytealg.IndexString"], unfollowed := true, recurses := true, named := ["internal/bytealg.MaxLen", "internal/strconv.uint64pow10", "math/bits.deBruijn32tab", "math/bits.deBruijn64tab"], loops := true, apart := false, laid := [("math/bits.deBruijn32tab", laid_math_bits_deBruijn32tab), ("math/bits.deBruijn64tab", laid_math_bits_deBruijn64tab), ("internal/strconv.uint64pow10", laid_internal_strconv_uint64pow10)] }
def ElaborateWitnessesSaid : Prop := elaborateWitnessesRow.holds Tryz.pinned (OpenSpec.ofChange elaborateWitnessesSpec)

/-- ITS FALSE NEIGHBOUR: 'it returns false'. Refute it at one input. -/
def elaborateWitnessesWrong : ChangeSpec := { name := "elaborateWitnesses", fn := fun _ => fun
  | [d1, d2] => { results := [.lit (.bool false)], args := [d1, d2] }
  | _ => none }
def ElaborateWitnessesWrongFalsely : Prop := elaborateWitnessesRow.holds Tryz.pinned (OpenSpec.ofChange elaborateWitnessesWrong)

/-- 'vinculumlaw52.RenderTree': WHATEVER THE INPUT: true; the input reads as it did. -/
def renderTreeSpec : ChangeSpec := { name := "renderTree", fn := fun _ => fun
  | [d1, d2] => { results := [.lit (.bool true)], args := [d1, d2] }
  | _ => none }
def renderTreeRow : OpenClaim := { program := "ytadcldfbmkfkaaagreatdoor", sum := "9afaa8969a3ba58ce8d61cdefedb8f3a92f0c1899184948af6ffb2219a01c074", func := "vinculum/vinculumlaw52.RenderTree", spec := "renderTree", inPlace := ["internal/bytealg.IndexByteString", "internal/bytealg.IndexString"], unfollowed := true, recurses := true, named := ["internal/bytealg.MaxLen", "strconv.ErrSyntax", "strconv.ErrRange", "internal/strconv.uint64pow10", "math/bits.deBruijn32tab", "math/bits.deBruijn64tab"], loops := true, apart := false, laid := [("math/bits.deBruijn32tab", laid_math_bits_deBruijn32tab), ("math/bits.deBruijn64tab", laid_math_bits_deBruijn64tab), ("internal/strconv.uint64pow10", laid_internal_strconv_uint64pow10), ("strconv.ErrRange", laid_strconv_ErrRange), ("strconv.ErrSyntax", laid_strconv_ErrSyntax)] }
def RenderTreeSaid : Prop := renderTreeRow.holds Tryz.pinned (OpenSpec.ofChange renderTreeSpec)

/-- ITS FALSE NEIGHBOUR: 'it returns false'. Refute it at one input. -/
def renderTreeWrong : ChangeSpec := { name := "renderTree", fn := fun _ => fun
  | [d1, d2] => { results := [.lit (.bool false)], args := [d1, d2] }
  | _ => none }
def RenderTreeWrongFalsely : Prop := renderTreeRow.holds Tryz.pinned (OpenSpec.ofChange renderTreeWrong)

/-- 'vinculumlaw52.RenderInverse': WHATEVER THE INPUT: true; the input reads as it did. -/
def renderInverseSpec : ChangeSpec := { name := "renderInverse", fn := fun _ => fun
  | [d1, d2] => { results := [.lit (.bool true)], args := [d1, d2] }
  | _ => none }
def renderInverseRow : OpenClaim := { program := "ytadcldfbmkfkaaagreatdoor", sum := "9afaa8969a3ba58ce8d61cdefedb8f3a92f0c1899184948af6ffb2219a01c074", func := "vinculum/vinculumlaw52.RenderInverse", spec := "renderInverse", inPlace := ["internal/bytealg.IndexByteString", "internal/bytealg.IndexString"], unfollowed := true, recurses := true, named := ["internal/bytealg.MaxLen", "strconv.ErrSyntax", "strconv.ErrRange", "internal/strconv.uint64pow10", "math/bits.deBruijn32tab", "math/bits.deBruijn64tab"], loops := true, apart := false, laid := [("math/bits.deBruijn32tab", laid_math_bits_deBruijn32tab), ("math/bits.deBruijn64tab", laid_math_bits_deBruijn64tab), ("internal/strconv.uint64pow10", laid_internal_strconv_uint64pow10), ("strconv.ErrRange", laid_strconv_ErrRange), ("strconv.ErrSyntax", laid_strconv_ErrSyntax)] }
def RenderInverseSaid : Prop := renderInverseRow.holds Tryz.pinned (OpenSpec.ofChange renderInverseSpec)

/-- ITS FALSE NEIGHBOUR: 'it returns false'. Refute it at one input. -/
def renderInverseWrong : ChangeSpec := { name := "renderInverse", fn := fun _ => fun
  | [d1, d2] => { results := [.lit (.bool false)], args := [d1, d2] }
  | _ => none }
def RenderInverseWrongFalsely : Prop := renderInverseRow.holds Tryz.pinned (OpenSpec.ofChange renderInverseWrong)

/-- 'vinculumlaw52.RenderMeans': WHATEVER THE INPUT: true; the input reads as it did. -/
def renderMeansSpec : ChangeSpec := { name := "renderMeans", fn := fun _ => fun
  | [d1, d2] => { results := [.lit (.bool true)], args := [d1, d2] }
  | _ => none }
def renderMeansRow : OpenClaim := { program := "ytadcldfbmkfkaaagreatdoor", sum := "9afaa8969a3ba58ce8d61cdefedb8f3a92f0c1899184948af6ffb2219a01c074", func := "vinculum/vinculumlaw52.RenderMeans", spec := "renderMeans", inPlace := ["internal/bytealg.IndexByteString", "internal/bytealg.IndexString"], unfollowed := true, recurses := true, named := ["internal/bytealg.MaxLen", "strconv.ErrSyntax", "strconv.ErrRange", "internal/strconv.uint64pow10", "math/bits.deBruijn32tab", "math/bits.deBruijn64tab"], loops := true, apart := false, laid := [("math/bits.deBruijn32tab", laid_math_bits_deBruijn32tab), ("math/bits.deBruijn64tab", laid_math_bits_deBruijn64tab), ("internal/strconv.uint64pow10", laid_internal_strconv_uint64pow10), ("strconv.ErrRange", laid_strconv_ErrRange), ("strconv.ErrSyntax", laid_strconv_ErrSyntax)] }
def RenderMeansSaid : Prop := renderMeansRow.holds Tryz.pinned (OpenSpec.ofChange renderMeansSpec)

/-- ITS FALSE NEIGHBOUR: 'it returns false'. Refute it at one input. -/
def renderMeansWrong : ChangeSpec := { name := "renderMeans", fn := fun _ => fun
  | [d1, d2] => { results := [.lit (.bool false)], args := [d1, d2] }
  | _ => none }
def RenderMeansWrongFalsely : Prop := renderMeansRow.holds Tryz.pinned (OpenSpec.ofChange renderMeansWrong)

/-- 'vinculumlaw52.RenderFirst': WHATEVER THE INPUT: true; the input reads as it did. -/
def renderFirstSpec : ChangeSpec := { name := "renderFirst", fn := fun _ => fun
  | [d1, d2] => { results := [.lit (.bool true)], args := [d1, d2] }
  | _ => none }
def renderFirstRow : OpenClaim := { program := "ytadcldfbmkfkaaagreatdoor", sum := "9afaa8969a3ba58ce8d61cdefedb8f3a92f0c1899184948af6ffb2219a01c074", func := "vinculum/vinculumlaw52.RenderFirst", spec := "renderFirst", inPlace := ["internal/bytealg.IndexByteString", "internal/bytealg.IndexString"], unfollowed := true, recurses := true, named := ["internal/bytealg.MaxLen", "strconv.ErrSyntax", "strconv.ErrRange", "internal/strconv.uint64pow10", "math/bits.deBruijn32tab", "math/bits.deBruijn64tab"], loops := true, apart := false, laid := [("math/bits.deBruijn32tab", laid_math_bits_deBruijn32tab), ("math/bits.deBruijn64tab", laid_math_bits_deBruijn64tab), ("internal/strconv.uint64pow10", laid_internal_strconv_uint64pow10), ("strconv.ErrRange", laid_strconv_ErrRange), ("strconv.ErrSyntax", laid_strconv_ErrSyntax)] }
def RenderFirstSaid : Prop := renderFirstRow.holds Tryz.pinned (OpenSpec.ofChange renderFirstSpec)

/-- ITS FALSE NEIGHBOUR: 'it returns false'. Refute it at one input. -/
def renderFirstWrong : ChangeSpec := { name := "renderFirst", fn := fun _ => fun
  | [d1, d2] => { results := [.lit (.bool false)], args := [d1, d2] }
  | _ => none }
def RenderFirstWrongFalsely : Prop := renderFirstRow.holds Tryz.pinned (OpenSpec.ofChange renderFirstWrong)

/-- 'vinculumlaw52.RenderBrackets': WHATEVER THE INPUT: true; the input reads as it did. -/
def renderBracketsSpec : ChangeSpec := { name := "renderBrackets", fn := fun _ => fun
  | [d1, d2] => { results := [.lit (.bool true)], args := [d1, d2] }
  | _ => none }
def renderBracketsRow : OpenClaim := { program := "ytadcldfbmkfkaaagreatdoor", sum := "9afaa8969a3ba58ce8d61cdefedb8f3a92f0c1899184948af6ffb2219a01c074", func := "vinculum/vinculumlaw52.RenderBrackets", spec := "renderBrackets", inPlace := ["internal/bytealg.IndexByteString", "internal/bytealg.IndexString"], unfollowed := true, recurses := true, named := ["internal/bytealg.MaxLen", "strconv.ErrSyntax", "strconv.ErrRange", "internal/strconv.uint64pow10", "math/bits.deBruijn32tab", "math/bits.deBruijn64tab"], loops := true, apart := false, laid := [("math/bits.deBruijn32tab", laid_math_bits_deBruijn32tab), ("math/bits.deBruijn64tab", laid_math_bits_deBruijn64tab), ("internal/strconv.uint64pow10", laid_internal_strconv_uint64pow10), ("strconv.ErrRange", laid_strconv_ErrRange), ("strconv.ErrSyntax", laid_strconv_ErrSyntax)] }
def RenderBracketsSaid : Prop := renderBracketsRow.holds Tryz.pinned (OpenSpec.ofChange renderBracketsSpec)

/-- ITS FALSE NEIGHBOUR: 'it returns false'. Refute it at one input. -/
def renderBracketsWrong : ChangeSpec := { name := "renderBrackets", fn := fun _ => fun
  | [d1, d2] => { results := [.lit (.bool false)], args := [d1, d2] }
  | _ => none }
def RenderBracketsWrongFalsely : Prop := renderBracketsRow.holds Tryz.pinned (OpenSpec.ofChange renderBracketsWrong)

/- THE SECOND FORM. 'bulk': how many values and letters a reading holds, each counted each time it is reached (what is shared counts as often as it is met; a slice's spare places count too). A statement '..UptoSaid' is the law's where the arguments, and the package variables that the reading takes, are together of bulk at most 1048576: NARROWER than '..Said'. Prove '..Said' where nothing that the law and all that it calls make is longer than what came in: it says more and counts as full. Else prove '..UptoSaid'. A law counts once. -/
mutual
def uptoBulk {H : Type} : DataW H → Nat
  | .lit (.string bytes) => bytes.length + 1
  | .lit _ => 1
  | .nil => 1
  | .ptr d => uptoBulk d + 1
  | .slice elems spare => uptoBulkAll elems + uptoBulkAll spare + 1
  | .agg parts => uptoBulkAll parts + 1
  | .iface _ d => uptoBulk d + 1
  | .map entries => uptoBulkEntries entries + 1
  | .held _ => 1
def uptoBulkAll {H : Type} : List (DataW H) → Nat
  | [] => 0
  | d :: r => uptoBulk d + uptoBulkAll r
def uptoBulkEntries {H : Type} : List (Lit × DataW H) → Nat
  | [] => 0
  | x :: r => uptoBulkEntry x + uptoBulkEntries r
def uptoBulkEntry {H : Type} : Lit × DataW H → Nat
  | (.string bytes, d) => bytes.length + uptoBulk d + 1
  | (_, d) => uptoBulk d + 1
 end
def uptoSmall : (H : Type) → List (DataW H) → Bool := fun _ ds => decide (uptoBulkAll ds ≤ 1048576)
def OpenSpec.upto (s : _root_.Go.ChangeSpec) : _root_.Go.OpenSpec := { _root_.Go.OpenSpec.ofChange s with cond := some uptoSmall }

/-- 'vinculumlaw51.ElaborateTree', WHERE WHAT IT READS IS OF BULK AT MOST 1048576: true; the input reads as it did. -/
def elaborateTreeUptoRow : OpenClaim := { program := "ytadcldfbmkfkaaagreatdoor", sum := "9afaa8969a3ba58ce8d61cdefedb8f3a92f0c1899184948af6ffb2219a01c074", func := "vinculum/vinculumlaw51.ElaborateTree", spec := "elaborateTree", inPlace := ["internal/bytealg.IndexByteString", "internal/bytealg.IndexString"], unfollowed := true, recurses := true, named := ["internal/bytealg.MaxLen", "internal/strconv.uint64pow10", "math/bits.deBruijn32tab", "math/bits.deBruijn64tab"], loops := true, apart := false, laid := [("math/bits.deBruijn32tab", laid_math_bits_deBruijn32tab), ("math/bits.deBruijn64tab", laid_math_bits_deBruijn64tab), ("internal/strconv.uint64pow10", laid_internal_strconv_uint64pow10)], narrowed := true }
def ElaborateTreeUptoSaid : Prop := elaborateTreeUptoRow.holds Tryz.pinned (OpenSpec.upto elaborateTreeSpec)

/-- 'vinculumlaw51.ElaborateWitnesses', WHERE WHAT IT READS IS OF BULK AT MOST 1048576: true; the input reads as it did. -/
def elaborateWitnessesUptoRow : OpenClaim := { program := "ytadcldfbmkfkaaagreatdoor", sum := "9afaa8969a3ba58ce8d61cdefedb8f3a92f0c1899184948af6ffb2219a01c074", func := "vinculum/vinculumlaw51.ElaborateWitnesses", spec := "elaborateWitnesses", inPlace := ["internal/bytealg.IndexByteString", "internal/bytealg.IndexString"], unfollowed := true, recurses := true, named := ["internal/bytealg.MaxLen", "internal/strconv.uint64pow10", "math/bits.deBruijn32tab", "math/bits.deBruijn64tab"], loops := true, apart := false, laid := [("math/bits.deBruijn32tab", laid_math_bits_deBruijn32tab), ("math/bits.deBruijn64tab", laid_math_bits_deBruijn64tab), ("internal/strconv.uint64pow10", laid_internal_strconv_uint64pow10)], narrowed := true }
def ElaborateWitnessesUptoSaid : Prop := elaborateWitnessesUptoRow.holds Tryz.pinned (OpenSpec.upto elaborateWitnessesSpec)

/-- 'vinculumlaw52.RenderTree', WHERE WHAT IT READS IS OF BULK AT MOST 1048576: true; the input reads as it did. -/
def renderTreeUptoRow : OpenClaim := { program := "ytadcldfbmkfkaaagreatdoor", sum := "9afaa8969a3ba58ce8d61cdefedb8f3a92f0c1899184948af6ffb2219a01c074", func := "vinculum/vinculumlaw52.RenderTree", spec := "renderTree", inPlace := ["internal/bytealg.IndexByteString", "internal/bytealg.IndexString"], unfollowed := true, recurses := true, named := ["internal/bytealg.MaxLen", "strconv.ErrSyntax", "strconv.ErrRange", "internal/strconv.uint64pow10", "math/bits.deBruijn32tab", "math/bits.deBruijn64tab"], loops := true, apart := false, laid := [("math/bits.deBruijn32tab", laid_math_bits_deBruijn32tab), ("math/bits.deBruijn64tab", laid_math_bits_deBruijn64tab), ("internal/strconv.uint64pow10", laid_internal_strconv_uint64pow10), ("strconv.ErrRange", laid_strconv_ErrRange), ("strconv.ErrSyntax", laid_strconv_ErrSyntax)], narrowed := true }
def RenderTreeUptoSaid : Prop := renderTreeUptoRow.holds Tryz.pinned (OpenSpec.upto renderTreeSpec)

/-- 'vinculumlaw52.RenderInverse', WHERE WHAT IT READS IS OF BULK AT MOST 1048576: true; the input reads as it did. -/
def renderInverseUptoRow : OpenClaim := { program := "ytadcldfbmkfkaaagreatdoor", sum := "9afaa8969a3ba58ce8d61cdefedb8f3a92f0c1899184948af6ffb2219a01c074", func := "vinculum/vinculumlaw52.RenderInverse", spec := "renderInverse", inPlace := ["internal/bytealg.IndexByteString", "internal/bytealg.IndexString"], unfollowed := true, recurses := true, named := ["internal/bytealg.MaxLen", "strconv.ErrSyntax", "strconv.ErrRange", "internal/strconv.uint64pow10", "math/bits.deBruijn32tab", "math/bits.deBruijn64tab"], loops := true, apart := false, laid := [("math/bits.deBruijn32tab", laid_math_bits_deBruijn32tab), ("math/bits.deBruijn64tab", laid_math_bits_deBruijn64tab), ("internal/strconv.uint64pow10", laid_internal_strconv_uint64pow10), ("strconv.ErrRange", laid_strconv_ErrRange), ("strconv.ErrSyntax", laid_strconv_ErrSyntax)], narrowed := true }
def RenderInverseUptoSaid : Prop := renderInverseUptoRow.holds Tryz.pinned (OpenSpec.upto renderInverseSpec)

/-- 'vinculumlaw52.RenderMeans', WHERE WHAT IT READS IS OF BULK AT MOST 1048576: true; the input reads as it did. -/
def renderMeansUptoRow : OpenClaim := { program := "ytadcldfbmkfkaaagreatdoor", sum := "9afaa8969a3ba58ce8d61cdefedb8f3a92f0c1899184948af6ffb2219a01c074", func := "vinculum/vinculumlaw52.RenderMeans", spec := "renderMeans", inPlace := ["internal/bytealg.IndexByteString", "internal/bytealg.IndexString"], unfollowed := true, recurses := true, named := ["internal/bytealg.MaxLen", "strconv.ErrSyntax", "strconv.ErrRange", "internal/strconv.uint64pow10", "math/bits.deBruijn32tab", "math/bits.deBruijn64tab"], loops := true, apart := false, laid := [("math/bits.deBruijn32tab", laid_math_bits_deBruijn32tab), ("math/bits.deBruijn64tab", laid_math_bits_deBruijn64tab), ("internal/strconv.uint64pow10", laid_internal_strconv_uint64pow10), ("strconv.ErrRange", laid_strconv_ErrRange), ("strconv.ErrSyntax", laid_strconv_ErrSyntax)], narrowed := true }
def RenderMeansUptoSaid : Prop := renderMeansUptoRow.holds Tryz.pinned (OpenSpec.upto renderMeansSpec)

/-- 'vinculumlaw52.RenderFirst', WHERE WHAT IT READS IS OF BULK AT MOST 1048576: true; the input reads as it did. -/
def renderFirstUptoRow : OpenClaim := { program := "ytadcldfbmkfkaaagreatdoor", sum := "9afaa8969a3ba58ce8d61cdefedb8f3a92f0c1899184948af6ffb2219a01c074", func := "vinculum/vinculumlaw52.RenderFirst", spec := "renderFirst", inPlace := ["internal/bytealg.IndexByteString", "internal/bytealg.IndexString"], unfollowed := true, recurses := true, named := ["internal/bytealg.MaxLen", "strconv.ErrSyntax", "strconv.ErrRange", "internal/strconv.uint64pow10", "math/bits.deBruijn32tab", "math/bits.deBruijn64tab"], loops := true, apart := false, laid := [("math/bits.deBruijn32tab", laid_math_bits_deBruijn32tab), ("math/bits.deBruijn64tab", laid_math_bits_deBruijn64tab), ("internal/strconv.uint64pow10", laid_internal_strconv_uint64pow10), ("strconv.ErrRange", laid_strconv_ErrRange), ("strconv.ErrSyntax", laid_strconv_ErrSyntax)], narrowed := true }
def RenderFirstUptoSaid : Prop := renderFirstUptoRow.holds Tryz.pinned (OpenSpec.upto renderFirstSpec)

/-- 'vinculumlaw52.RenderBrackets', WHERE WHAT IT READS IS OF BULK AT MOST 1048576: true; the input reads as it did. -/
def renderBracketsUptoRow : OpenClaim := { program := "ytadcldfbmkfkaaagreatdoor", sum := "9afaa8969a3ba58ce8d61cdefedb8f3a92f0c1899184948af6ffb2219a01c074", func := "vinculum/vinculumlaw52.RenderBrackets", spec := "renderBrackets", inPlace := ["internal/bytealg.IndexByteString", "internal/bytealg.IndexString"], unfollowed := true, recurses := true, named := ["internal/bytealg.MaxLen", "strconv.ErrSyntax", "strconv.ErrRange", "internal/strconv.uint64pow10", "math/bits.deBruijn32tab", "math/bits.deBruijn64tab"], loops := true, apart := false, laid := [("math/bits.deBruijn32tab", laid_math_bits_deBruijn32tab), ("math/bits.deBruijn64tab", laid_math_bits_deBruijn64tab), ("internal/strconv.uint64pow10", laid_internal_strconv_uint64pow10), ("strconv.ErrRange", laid_strconv_ErrRange), ("strconv.ErrSyntax", laid_strconv_ErrSyntax)], narrowed := true }
def RenderBracketsUptoSaid : Prop := renderBracketsUptoRow.holds Tryz.pinned (OpenSpec.upto renderBracketsSpec)

end Rows
end Go.Proofs.YtadcldfbmkfkaaaGreatDoor
