/-
  NARROWER THAN 'FOR EVERY INPUT', by the rows' own cells (each row's printed sentence says how): AtomClass: loops · AtomClasses: loops · AtomBinary: loops · AtomOwn: loops · AtomPrefix: loops.
  DERIVED. THE GIVEN ROWS OF THIS SEAT. 7 by the template 'for every input the law returns true; each argument reads behind the call as it read before'; 0 by the template 'total and deterministic' (their statements: YtgoafobhhmeppaaTotals.lean).
  GIVEN WITH THE SEED: the statements are not yours to turn. If you find one false, say at which input.
  Laid BY PROGRAM, IN A SANDBOX (cutbox-rows.mjs): the forced cells as the released guide's own fill.sh prints them over the translation 7ea943c311a874f4… (all of the seat's roots in one cut). By AI agents, Wed Nov 11 2026. No macro, syntax, notation, axiom, sorry.
-/
import Derived.Test.YtgoafobhhmeppaaChecked
import GoSem.Claim
import GoSem.ClaimJoined
import GoSem.ClaimMapViews
import Derived.JoinedTies
import Derived.KernelRfl
namespace Go.Proofs.Ytgoafobhhmeppaa
/- THE CELL 'sum', in the pinned program and in every row, IS THE sha256 OF THE DUMP (.gsa) THAT YtgoafobhhmeppaaProg.lean LOADS. Nothing in Lean hashes anything: it is a label: what it is worth is what the hold of that sum in a sandbox is worth. -/
noncomputable def Try.pinned : Pinned := { name := "ytgoafobhhmeppaa", sum := "7ea943c311a874f4a1cef0b1e46e328dad200667d3ebd4f5734526f9bc94d7cf", checked := Try.checked }
namespace Rows
def none {H : Type} : Left H := { results := [], args := [] }

/-- 'vinculumlaw26.AtomClass': WHATEVER THE INPUT: true; the input reads as it did. -/
def atomClassSpec : ChangeSpec := { name := "atomClass", fn := fun _ => fun
  | [d1, d2] => { results := [.lit (.bool true)], args := [d1, d2] }
  | _ => none }
def atomClassRow : OpenClaim := { program := "ytgoafobhhmeppaa", sum := "7ea943c311a874f4a1cef0b1e46e328dad200667d3ebd4f5734526f9bc94d7cf", func := "vinculum/vinculumlaw26.AtomClass", spec := "atomClass", inPlace := ["internal/bytealg.IndexByteString", "internal/bytealg.IndexString"], unfollowed := true, recurses := true, named := ["internal/bytealg.MaxLen"], loops := true, apart := false }
def AtomClassSaid : Prop := atomClassRow.holds Try.pinned (OpenSpec.ofChange atomClassSpec)

/-- ITS FALSE NEIGHBOUR: 'it returns false'. Refute it at one input. -/
def atomClassWrong : ChangeSpec := { name := "atomClass", fn := fun _ => fun
  | [d1, d2] => { results := [.lit (.bool false)], args := [d1, d2] }
  | _ => none }
def AtomClassWrongFalsely : Prop := atomClassRow.holds Try.pinned (OpenSpec.ofChange atomClassWrong)

/-- 'vinculumlaw26.AtomClasses': WHATEVER THE INPUT: true; the input reads as it did. -/
def atomClassesSpec : ChangeSpec := { name := "atomClasses", fn := fun _ => fun
  | [d1, d2] => { results := [.lit (.bool true)], args := [d1, d2] }
  | _ => none }
def atomClassesRow : OpenClaim := { program := "ytgoafobhhmeppaa", sum := "7ea943c311a874f4a1cef0b1e46e328dad200667d3ebd4f5734526f9bc94d7cf", func := "vinculum/vinculumlaw26.AtomClasses", spec := "atomClasses", inPlace := ["internal/bytealg.IndexByteString", "internal/bytealg.IndexString"], unfollowed := true, recurses := true, named := ["internal/bytealg.MaxLen"], loops := true, apart := false }
def AtomClassesSaid : Prop := atomClassesRow.holds Try.pinned (OpenSpec.ofChange atomClassesSpec)

/-- ITS FALSE NEIGHBOUR: 'it returns false'. Refute it at one input. -/
def atomClassesWrong : ChangeSpec := { name := "atomClasses", fn := fun _ => fun
  | [d1, d2] => { results := [.lit (.bool false)], args := [d1, d2] }
  | _ => none }
def AtomClassesWrongFalsely : Prop := atomClassesRow.holds Try.pinned (OpenSpec.ofChange atomClassesWrong)

/-- 'vinculumlaw26.AtomSpace': WHATEVER THE INPUT: true; the input reads as it did. -/
def atomSpaceSpec : ChangeSpec := { name := "atomSpace", fn := fun _ => fun
  | [d1, d2, d3] => { results := [.lit (.bool true)], args := [d1, d2, d3] }
  | _ => none }
def atomSpaceRow : OpenClaim := { program := "ytgoafobhhmeppaa", sum := "7ea943c311a874f4a1cef0b1e46e328dad200667d3ebd4f5734526f9bc94d7cf", func := "vinculum/vinculumlaw26.AtomSpace", spec := "atomSpace", inPlace := ["internal/bytealg.IndexByteString", "internal/bytealg.IndexString"], unfollowed := true, recurses := true, named := ["internal/bytealg.MaxLen"], apart := false }
def AtomSpaceSaid : Prop := atomSpaceRow.holds Try.pinned (OpenSpec.ofChange atomSpaceSpec)

/-- ITS FALSE NEIGHBOUR: 'it returns false'. Refute it at one input. -/
def atomSpaceWrong : ChangeSpec := { name := "atomSpace", fn := fun _ => fun
  | [d1, d2, d3] => { results := [.lit (.bool false)], args := [d1, d2, d3] }
  | _ => none }
def AtomSpaceWrongFalsely : Prop := atomSpaceRow.holds Try.pinned (OpenSpec.ofChange atomSpaceWrong)

/-- 'vinculumlaw26.AtomBinary': WHATEVER THE INPUT: true; the input reads as it did. -/
def atomBinarySpec : ChangeSpec := { name := "atomBinary", fn := fun _ => fun
  | [d] => { results := [.lit (.bool true)], args := [d] }
  | _ => none }
def atomBinaryRow : OpenClaim := { program := "ytgoafobhhmeppaa", sum := "7ea943c311a874f4a1cef0b1e46e328dad200667d3ebd4f5734526f9bc94d7cf", func := "vinculum/vinculumlaw26.AtomBinary", spec := "atomBinary", inPlace := ["internal/bytealg.IndexByteString", "internal/bytealg.IndexString"], unfollowed := true, recurses := true, named := ["internal/bytealg.MaxLen"], loops := true, apart := false }
def AtomBinarySaid : Prop := atomBinaryRow.holds Try.pinned (OpenSpec.ofChange atomBinarySpec)

/-- ITS FALSE NEIGHBOUR: 'it returns false'. Refute it at one input. -/
def atomBinaryWrong : ChangeSpec := { name := "atomBinary", fn := fun _ => fun
  | [d] => { results := [.lit (.bool false)], args := [d] }
  | _ => none }
def AtomBinaryWrongFalsely : Prop := atomBinaryRow.holds Try.pinned (OpenSpec.ofChange atomBinaryWrong)

/-- 'vinculumlaw26.AtomOwn': WHATEVER THE INPUT: true; the input reads as it did. -/
def atomOwnSpec : ChangeSpec := { name := "atomOwn", fn := fun _ => fun
  | [d] => { results := [.lit (.bool true)], args := [d] }
  | _ => none }
def atomOwnRow : OpenClaim := { program := "ytgoafobhhmeppaa", sum := "7ea943c311a874f4a1cef0b1e46e328dad200667d3ebd4f5734526f9bc94d7cf", func := "vinculum/vinculumlaw26.AtomOwn", spec := "atomOwn", inPlace := ["internal/bytealg.IndexByteString", "internal/bytealg.IndexString"], unfollowed := true, recurses := true, named := ["internal/bytealg.MaxLen"], loops := true, apart := false }
def AtomOwnSaid : Prop := atomOwnRow.holds Try.pinned (OpenSpec.ofChange atomOwnSpec)

/-- ITS FALSE NEIGHBOUR: 'it returns false'. Refute it at one input. -/
def atomOwnWrong : ChangeSpec := { name := "atomOwn", fn := fun _ => fun
  | [d] => { results := [.lit (.bool false)], args := [d] }
  | _ => none }
def AtomOwnWrongFalsely : Prop := atomOwnRow.holds Try.pinned (OpenSpec.ofChange atomOwnWrong)

/-- 'vinculumlaw26.AtomPrefix': WHATEVER THE INPUT: true; the input reads as it did. -/
def atomPrefixSpec : ChangeSpec := { name := "atomPrefix", fn := fun _ => fun
  | [d1, d2] => { results := [.lit (.bool true)], args := [d1, d2] }
  | _ => none }
def atomPrefixRow : OpenClaim := { program := "ytgoafobhhmeppaa", sum := "7ea943c311a874f4a1cef0b1e46e328dad200667d3ebd4f5734526f9bc94d7cf", func := "vinculum/vinculumlaw26.AtomPrefix", spec := "atomPrefix", inPlace := ["internal/bytealg.IndexByteString", "internal/bytealg.IndexString"], unfollowed := true, recurses := true, named := ["internal/bytealg.MaxLen"], loops := true, apart := false }
def AtomPrefixSaid : Prop := atomPrefixRow.holds Try.pinned (OpenSpec.ofChange atomPrefixSpec)

/-- ITS FALSE NEIGHBOUR: 'it returns false'. Refute it at one input. -/
def atomPrefixWrong : ChangeSpec := { name := "atomPrefix", fn := fun _ => fun
  | [d1, d2] => { results := [.lit (.bool false)], args := [d1, d2] }
  | _ => none }
def AtomPrefixWrongFalsely : Prop := atomPrefixRow.holds Try.pinned (OpenSpec.ofChange atomPrefixWrong)

/-- 'vinculumlaw26.AtomStyles': WHATEVER THE INPUT: true; the input reads as it did. -/
def atomStylesSpec : ChangeSpec := { name := "atomStyles", fn := fun _ => fun
  | [d1, d2, d3] => { results := [.lit (.bool true)], args := [d1, d2, d3] }
  | _ => none }
def atomStylesRow : OpenClaim := { program := "ytgoafobhhmeppaa", sum := "7ea943c311a874f4a1cef0b1e46e328dad200667d3ebd4f5734526f9bc94d7cf", func := "vinculum/vinculumlaw26.AtomStyles", spec := "atomStyles", inPlace := ["internal/bytealg.IndexByteString", "internal/bytealg.IndexString"], unfollowed := true, recurses := true, named := ["internal/bytealg.MaxLen"], apart := false }
def AtomStylesSaid : Prop := atomStylesRow.holds Try.pinned (OpenSpec.ofChange atomStylesSpec)

/-- ITS FALSE NEIGHBOUR: 'it returns false'. Refute it at one input. -/
def atomStylesWrong : ChangeSpec := { name := "atomStyles", fn := fun _ => fun
  | [d1, d2, d3] => { results := [.lit (.bool false)], args := [d1, d2, d3] }
  | _ => none }
def AtomStylesWrongFalsely : Prop := atomStylesRow.holds Try.pinned (OpenSpec.ofChange atomStylesWrong)

/- THE SECOND FORM. 'bulk': how many values and letters a reading holds, each counted each time it is reached (what is shared counts as often as it is met; a slice's spare places count too). A statement '..UptoSaid' is the law's where the arguments, and the package variables that the reading takes, are together of bulk at most 1048576: NARROWER than '..Said'. Prove '..Said' where nothing that the law and all that it calls make is longer than what came in: it says more and counts as full. Else prove '..UptoSaid'. A law counts once. -/
mutual
def uptoBulk {H : Type} : DataW H → Nat
  | .lit (.string bytes) => bytes.length + 1
  | .lit _ => 1
  | .nil => 1
  | .ptr d => uptoBulk d + 1
  | .slice elems spare => uptoBulkAll elems + uptoBulkAll spare + 1
  | .agg parts => uptoBulkAll parts + 1
  | .iface _ d => uptoBulk d + 1
  | .map entries => uptoBulkEntries entries + 1
  | .held _ => 1
def uptoBulkAll {H : Type} : List (DataW H) → Nat
  | [] => 0
  | d :: r => uptoBulk d + uptoBulkAll r
def uptoBulkEntries {H : Type} : List (Lit × DataW H) → Nat
  | [] => 0
  | x :: r => uptoBulkEntry x + uptoBulkEntries r
def uptoBulkEntry {H : Type} : Lit × DataW H → Nat
  | (.string bytes, d) => bytes.length + uptoBulk d + 1
  | (_, d) => uptoBulk d + 1
 end
def uptoSmall : (H : Type) → List (DataW H) → Bool := fun _ ds => decide (uptoBulkAll ds ≤ 1048576)
def OpenSpec.upto (s : _root_.Go.ChangeSpec) : _root_.Go.OpenSpec := { _root_.Go.OpenSpec.ofChange s with cond := some uptoSmall }

/-- 'vinculumlaw26.AtomClass', WHERE WHAT IT READS IS OF BULK AT MOST 1048576: true; the input reads as it did. -/
def atomClassUptoRow : OpenClaim := { program := "ytgoafobhhmeppaa", sum := "7ea943c311a874f4a1cef0b1e46e328dad200667d3ebd4f5734526f9bc94d7cf", func := "vinculum/vinculumlaw26.AtomClass", spec := "atomClass", inPlace := ["internal/bytealg.IndexByteString", "internal/bytealg.IndexString"], unfollowed := true, recurses := true, named := ["internal/bytealg.MaxLen"], loops := true, apart := false, narrowed := true }
def AtomClassUptoSaid : Prop := atomClassUptoRow.holds Try.pinned (OpenSpec.upto atomClassSpec)

/-- 'vinculumlaw26.AtomClasses', WHERE WHAT IT READS IS OF BULK AT MOST 1048576: true; the input reads as it did. -/
def atomClassesUptoRow : OpenClaim := { program := "ytgoafobhhmeppaa", sum := "7ea943c311a874f4a1cef0b1e46e328dad200667d3ebd4f5734526f9bc94d7cf", func := "vinculum/vinculumlaw26.AtomClasses", spec := "atomClasses", inPlace := ["internal/bytealg.IndexByteString", "internal/bytealg.IndexString"], unfollowed := true, recurses := true, named := ["internal/bytealg.MaxLen"], loops := true, apart := false, narrowed := true }
def AtomClassesUptoSaid : Prop := atomClassesUptoRow.holds Try.pinned (OpenSpec.upto atomClassesSpec)

/-- 'vinculumlaw26.AtomSpace', WHERE WHAT IT READS IS OF BULK AT MOST 1048576: true; the input reads as it did. -/
def atomSpaceUptoRow : OpenClaim := { program := "ytgoafobhhmeppaa", sum := "7ea943c311a874f4a1cef0b1e46e328dad200667d3ebd4f5734526f9bc94d7cf", func := "vinculum/vinculumlaw26.AtomSpace", spec := "atomSpace", inPlace := ["internal/bytealg.IndexByteString", "internal/bytealg.IndexString"], unfollowed := true, recurses := true, named := ["internal/bytealg.MaxLen"], apart := false, narrowed := true }
def AtomSpaceUptoSaid : Prop := atomSpaceUptoRow.holds Try.pinned (OpenSpec.upto atomSpaceSpec)

/-- 'vinculumlaw26.AtomBinary', WHERE WHAT IT READS IS OF BULK AT MOST 1048576: true; the input reads as it did. -/
def atomBinaryUptoRow : OpenClaim := { program := "ytgoafobhhmeppaa", sum := "7ea943c311a874f4a1cef0b1e46e328dad200667d3ebd4f5734526f9bc94d7cf", func := "vinculum/vinculumlaw26.AtomBinary", spec := "atomBinary", inPlace := ["internal/bytealg.IndexByteString", "internal/bytealg.IndexString"], unfollowed := true, recurses := true, named := ["internal/bytealg.MaxLen"], loops := true, apart := false, narrowed := true }
def AtomBinaryUptoSaid : Prop := atomBinaryUptoRow.holds Try.pinned (OpenSpec.upto atomBinarySpec)

/-- 'vinculumlaw26.AtomOwn', WHERE WHAT IT READS IS OF BULK AT MOST 1048576: true; the input reads as it did. -/
def atomOwnUptoRow : OpenClaim := { program := "ytgoafobhhmeppaa", sum := "7ea943c311a874f4a1cef0b1e46e328dad200667d3ebd4f5734526f9bc94d7cf", func := "vinculum/vinculumlaw26.AtomOwn", spec := "atomOwn", inPlace := ["internal/bytealg.IndexByteString", "internal/bytealg.IndexString"], unfollowed := true, recurses := true, named := ["internal/bytealg.MaxLen"], loops := true, apart := false, narrowed := true }
def AtomOwnUptoSaid : Prop := atomOwnUptoRow.holds Try.pinned (OpenSpec.upto atomOwnSpec)

/-- 'vinculumlaw26.AtomPrefix', WHERE WHAT IT READS IS OF BULK AT MOST 1048576: true; the input reads as it did. -/
def atomPrefixUptoRow : OpenClaim := { program := "ytgoafobhhmeppaa", sum := "7ea943c311a874f4a1cef0b1e46e328dad200667d3ebd4f5734526f9bc94d7cf", func := "vinculum/vinculumlaw26.AtomPrefix", spec := "atomPrefix", inPlace := ["internal/bytealg.IndexByteString", "internal/bytealg.IndexString"], unfollowed := true, recurses := true, named := ["internal/bytealg.MaxLen"], loops := true, apart := false, narrowed := true }
def AtomPrefixUptoSaid : Prop := atomPrefixUptoRow.holds Try.pinned (OpenSpec.upto atomPrefixSpec)

/-- 'vinculumlaw26.AtomStyles', WHERE WHAT IT READS IS OF BULK AT MOST 1048576: true; the input reads as it did. -/
def atomStylesUptoRow : OpenClaim := { program := "ytgoafobhhmeppaa", sum := "7ea943c311a874f4a1cef0b1e46e328dad200667d3ebd4f5734526f9bc94d7cf", func := "vinculum/vinculumlaw26.AtomStyles", spec := "atomStyles", inPlace := ["internal/bytealg.IndexByteString", "internal/bytealg.IndexString"], unfollowed := true, recurses := true, named := ["internal/bytealg.MaxLen"], apart := false, narrowed := true }
def AtomStylesUptoSaid : Prop := atomStylesUptoRow.holds Try.pinned (OpenSpec.upto atomStylesSpec)

end Rows
end Go.Proofs.Ytgoafobhhmeppaa
