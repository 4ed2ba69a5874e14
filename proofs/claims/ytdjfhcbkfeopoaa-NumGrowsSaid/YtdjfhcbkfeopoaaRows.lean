/-
  No cell of these rows narrows 'for every input' (looked for: loops, veiled, ifaces, maps, wideKeys, modest, calm, conditions, laid).
  DERIVED. THE GIVEN ROWS OF THIS SEAT. 6 by the template 'for every input the law returns true; each argument reads behind the call as it read before'; 0 by the template 'total and deterministic' (their statements: YtdjfhcbkfeopoaaTotals.lean).
  GIVEN WITH THE SEED: the statements are not yours to turn. If you find one false, say at which input.
  Laid BY PROGRAM, IN A SANDBOX (cutbox-rows.mjs): the forced cells as the released guide's own fill.sh prints them over the translation b809190765ca53d8… (all of the seat's roots in one cut). By AI agents, Wed Nov 11 2026. No macro, syntax, notation, axiom, sorry.
-/
import Derived.Test.YtdjfhcbkfeopoaaChecked
import GoSem.Claim
import GoSem.ClaimJoined
import GoSem.ClaimMapViews
import Derived.JoinedTies
import Derived.KernelRfl
namespace Go.Proofs.Ytdjfhcbkfeopoaa
/- THE CELL 'sum', in the pinned program and in every row, IS THE sha256 OF THE DUMP (.gsa) THAT YtdjfhcbkfeopoaaProg.lean LOADS. Nothing in Lean hashes anything: it is a label: what it is worth is what the hold of that sum in a sandbox is worth. -/
noncomputable def Try.pinned : Pinned := { name := "ytdjfhcbkfeopoaa", sum := "b809190765ca53d883c5c4fcb0ab5550f95d0c285117f4a684b9794d1cb6b6f1", checked := Try.checked }
namespace Rows
def none {H : Type} : Left H := { results := [], args := [] }

/-- 'agiolaw04.NumParts': WHATEVER THE INPUT: true; the input reads as it did. -/
def numPartsSpec : ChangeSpec := { name := "numParts", fn := fun _ => fun
  | [d1, d2] => { results := [.lit (.bool true)], args := [d1, d2] }
  | _ => none }
def numPartsRow : OpenClaim := { program := "ytdjfhcbkfeopoaa", sum := "b809190765ca53d883c5c4fcb0ab5550f95d0c285117f4a684b9794d1cb6b6f1", func := "agio/agiolaw04.NumParts", spec := "numParts", named := ["math/bits.divideError", "math/bits.overflowError"], apart := false }
def NumPartsSaid : Prop := numPartsRow.holds Try.pinned (OpenSpec.ofChange numPartsSpec)

/-- ITS FALSE NEIGHBOUR: 'it returns false'. Refute it at one input. -/
def numPartsWrong : ChangeSpec := { name := "numParts", fn := fun _ => fun
  | [d1, d2] => { results := [.lit (.bool false)], args := [d1, d2] }
  | _ => none }
def NumPartsWrongFalsely : Prop := numPartsRow.holds Try.pinned (OpenSpec.ofChange numPartsWrong)

/-- 'agiolaw04.NumBoth': WHATEVER THE INPUT: true; the input reads as it did. -/
def numBothSpec : ChangeSpec := { name := "numBoth", fn := fun _ => fun
  | [d1, d2, d3] => { results := [.lit (.bool true)], args := [d1, d2, d3] }
  | _ => none }
def numBothRow : OpenClaim := { program := "ytdjfhcbkfeopoaa", sum := "b809190765ca53d883c5c4fcb0ab5550f95d0c285117f4a684b9794d1cb6b6f1", func := "agio/agiolaw04.NumBoth", spec := "numBoth", named := ["math/bits.divideError", "math/bits.overflowError"], apart := false }
def NumBothSaid : Prop := numBothRow.holds Try.pinned (OpenSpec.ofChange numBothSpec)

/-- ITS FALSE NEIGHBOUR: 'it returns false'. Refute it at one input. -/
def numBothWrong : ChangeSpec := { name := "numBoth", fn := fun _ => fun
  | [d1, d2, d3] => { results := [.lit (.bool false)], args := [d1, d2, d3] }
  | _ => none }
def NumBothWrongFalsely : Prop := numBothRow.holds Try.pinned (OpenSpec.ofChange numBothWrong)

/-- 'agiolaw04.NumGrows': WHATEVER THE INPUT: true; the input reads as it did. -/
def numGrowsSpec : ChangeSpec := { name := "numGrows", fn := fun _ => fun
  | [d1, d2, d3] => { results := [.lit (.bool true)], args := [d1, d2, d3] }
  | _ => none }
def numGrowsRow : OpenClaim := { program := "ytdjfhcbkfeopoaa", sum := "b809190765ca53d883c5c4fcb0ab5550f95d0c285117f4a684b9794d1cb6b6f1", func := "agio/agiolaw04.NumGrows", spec := "numGrows", named := ["math/bits.divideError", "math/bits.overflowError"], apart := false }
def NumGrowsSaid : Prop := numGrowsRow.holds Try.pinned (OpenSpec.ofChange numGrowsSpec)

/-- ITS FALSE NEIGHBOUR: 'it returns false'. Refute it at one input. -/
def numGrowsWrong : ChangeSpec := { name := "numGrows", fn := fun _ => fun
  | [d1, d2, d3] => { results := [.lit (.bool false)], args := [d1, d2, d3] }
  | _ => none }
def NumGrowsWrongFalsely : Prop := numGrowsRow.holds Try.pinned (OpenSpec.ofChange numGrowsWrong)

/-- 'agiolaw04.NumExact': WHATEVER THE INPUT: true; the input reads as it did. -/
def numExactSpec : ChangeSpec := { name := "numExact", fn := fun _ => fun
  | [d1, d2] => { results := [.lit (.bool true)], args := [d1, d2] }
  | _ => none }
def numExactRow : OpenClaim := { program := "ytdjfhcbkfeopoaa", sum := "b809190765ca53d883c5c4fcb0ab5550f95d0c285117f4a684b9794d1cb6b6f1", func := "agio/agiolaw04.NumExact", spec := "numExact", named := ["math/bits.divideError", "math/bits.overflowError"], apart := false }
def NumExactSaid : Prop := numExactRow.holds Try.pinned (OpenSpec.ofChange numExactSpec)

/-- ITS FALSE NEIGHBOUR: 'it returns false'. Refute it at one input. -/
def numExactWrong : ChangeSpec := { name := "numExact", fn := fun _ => fun
  | [d1, d2] => { results := [.lit (.bool false)], args := [d1, d2] }
  | _ => none }
def NumExactWrongFalsely : Prop := numExactRow.holds Try.pinned (OpenSpec.ofChange numExactWrong)

/-- 'agiolaw04.NumSums': WHATEVER THE INPUT: true; the input reads as it did. -/
def numSumsSpec : ChangeSpec := { name := "numSums", fn := fun _ => fun
  | [d1, d2] => { results := [.lit (.bool true)], args := [d1, d2] }
  | _ => none }
def numSumsRow : OpenClaim := { program := "ytdjfhcbkfeopoaa", sum := "b809190765ca53d883c5c4fcb0ab5550f95d0c285117f4a684b9794d1cb6b6f1", func := "agio/agiolaw04.NumSums", spec := "numSums", named := ["math/bits.divideError", "math/bits.overflowError"], apart := false }
def NumSumsSaid : Prop := numSumsRow.holds Try.pinned (OpenSpec.ofChange numSumsSpec)

/-- ITS FALSE NEIGHBOUR: 'it returns false'. Refute it at one input. -/
def numSumsWrong : ChangeSpec := { name := "numSums", fn := fun _ => fun
  | [d1, d2] => { results := [.lit (.bool false)], args := [d1, d2] }
  | _ => none }
def NumSumsWrongFalsely : Prop := numSumsRow.holds Try.pinned (OpenSpec.ofChange numSumsWrong)

/-- 'agiolaw04.NumBack': WHATEVER THE INPUT: true; the input reads as it did. -/
def numBackSpec : ChangeSpec := { name := "numBack", fn := fun _ => fun
  | [d1, d2] => { results := [.lit (.bool true)], args := [d1, d2] }
  | _ => none }
def numBackRow : OpenClaim := { program := "ytdjfhcbkfeopoaa", sum := "b809190765ca53d883c5c4fcb0ab5550f95d0c285117f4a684b9794d1cb6b6f1", func := "agio/agiolaw04.NumBack", spec := "numBack", named := ["math/bits.divideError", "math/bits.overflowError"], apart := false }
def NumBackSaid : Prop := numBackRow.holds Try.pinned (OpenSpec.ofChange numBackSpec)

/-- ITS FALSE NEIGHBOUR: 'it returns false'. Refute it at one input. -/
def numBackWrong : ChangeSpec := { name := "numBack", fn := fun _ => fun
  | [d1, d2] => { results := [.lit (.bool false)], args := [d1, d2] }
  | _ => none }
def NumBackWrongFalsely : Prop := numBackRow.holds Try.pinned (OpenSpec.ofChange numBackWrong)

/- THE SECOND FORM. 'bulk': how many values and letters a reading holds, each counted each time it is reached (what is shared counts as often as it is met; a slice's spare places count too). A statement '..UptoSaid' is the law's where the arguments, and the package variables that the reading takes, are together of bulk at most 1048576: NARROWER than '..Said'. Prove '..Said' where nothing that the law and all that it calls make is longer than what came in: it says more and counts as full. Else prove '..UptoSaid'. A law counts once. -/
mutual
def uptoBulk {H : Type} : DataW H → Nat
  | .lit (.string bytes) => bytes.length + 1
  | .lit _ => 1
  | .nil => 1
  | .ptr d => uptoBulk d + 1
  | .slice elems spare => uptoBulkAll elems + uptoBulkAll spare + 1
  | .agg parts => uptoBulkAll parts + 1
  | .iface _ d => uptoBulk d + 1
  | .map entries => uptoBulkEntries entries + 1
  | .held _ => 1
def uptoBulkAll {H : Type} : List (DataW H) → Nat
  | [] => 0
  | d :: r => uptoBulk d + uptoBulkAll r
def uptoBulkEntries {H : Type} : List (Lit × DataW H) → Nat
  | [] => 0
  | x :: r => uptoBulkEntry x + uptoBulkEntries r
def uptoBulkEntry {H : Type} : Lit × DataW H → Nat
  | (.string bytes, d) => bytes.length + uptoBulk d + 1
  | (_, d) => uptoBulk d + 1
 end
def uptoSmall : (H : Type) → List (DataW H) → Bool := fun _ ds => decide (uptoBulkAll ds ≤ 1048576)
def OpenSpec.upto (s : _root_.Go.ChangeSpec) : _root_.Go.OpenSpec := { _root_.Go.OpenSpec.ofChange s with cond := some uptoSmall }

/-- 'agiolaw04.NumParts', WHERE WHAT IT READS IS OF BULK AT MOST 1048576: true; the input reads as it did. -/
def numPartsUptoRow : OpenClaim := { program := "ytdjfhcbkfeopoaa", sum := "b809190765ca53d883c5c4fcb0ab5550f95d0c285117f4a684b9794d1cb6b6f1", func := "agio/agiolaw04.NumParts", spec := "numParts", named := ["math/bits.divideError", "math/bits.overflowError"], apart := false, narrowed := true }
def NumPartsUptoSaid : Prop := numPartsUptoRow.holds Try.pinned (OpenSpec.upto numPartsSpec)

/-- 'agiolaw04.NumBoth', WHERE WHAT IT READS IS OF BULK AT MOST 1048576: true; the input reads as it did. -/
def numBothUptoRow : OpenClaim := { program := "ytdjfhcbkfeopoaa", sum := "b809190765ca53d883c5c4fcb0ab5550f95d0c285117f4a684b9794d1cb6b6f1", func := "agio/agiolaw04.NumBoth", spec := "numBoth", named := ["math/bits.divideError", "math/bits.overflowError"], apart := false, narrowed := true }
def NumBothUptoSaid : Prop := numBothUptoRow.holds Try.pinned (OpenSpec.upto numBothSpec)

/-- 'agiolaw04.NumGrows', WHERE WHAT IT READS IS OF BULK AT MOST 1048576: true; the input reads as it did. -/
def numGrowsUptoRow : OpenClaim := { program := "ytdjfhcbkfeopoaa", sum := "b809190765ca53d883c5c4fcb0ab5550f95d0c285117f4a684b9794d1cb6b6f1", func := "agio/agiolaw04.NumGrows", spec := "numGrows", named := ["math/bits.divideError", "math/bits.overflowError"], apart := false, narrowed := true }
def NumGrowsUptoSaid : Prop := numGrowsUptoRow.holds Try.pinned (OpenSpec.upto numGrowsSpec)

/-- 'agiolaw04.NumExact', WHERE WHAT IT READS IS OF BULK AT MOST 1048576: true; the input reads as it did. -/
def numExactUptoRow : OpenClaim := { program := "ytdjfhcbkfeopoaa", sum := "b809190765ca53d883c5c4fcb0ab5550f95d0c285117f4a684b9794d1cb6b6f1", func := "agio/agiolaw04.NumExact", spec := "numExact", named := ["math/bits.divideError", "math/bits.overflowError"], apart := false, narrowed := true }
def NumExactUptoSaid : Prop := numExactUptoRow.holds Try.pinned (OpenSpec.upto numExactSpec)

/-- 'agiolaw04.NumSums', WHERE WHAT IT READS IS OF BULK AT MOST 1048576: true; the input reads as it did. -/
def numSumsUptoRow : OpenClaim := { program := "ytdjfhcbkfeopoaa", sum := "b809190765ca53d883c5c4fcb0ab5550f95d0c285117f4a684b9794d1cb6b6f1", func := "agio/agiolaw04.NumSums", spec := "numSums", named := ["math/bits.divideError", "math/bits.overflowError"], apart := false, narrowed := true }
def NumSumsUptoSaid : Prop := numSumsUptoRow.holds Try.pinned (OpenSpec.upto numSumsSpec)

/-- 'agiolaw04.NumBack', WHERE WHAT IT READS IS OF BULK AT MOST 1048576: true; the input reads as it did. -/
def numBackUptoRow : OpenClaim := { program := "ytdjfhcbkfeopoaa", sum := "b809190765ca53d883c5c4fcb0ab5550f95d0c285117f4a684b9794d1cb6b6f1", func := "agio/agiolaw04.NumBack", spec := "numBack", named := ["math/bits.divideError", "math/bits.overflowError"], apart := false, narrowed := true }
def NumBackUptoSaid : Prop := numBackUptoRow.holds Try.pinned (OpenSpec.upto numBackSpec)

end Rows
end Go.Proofs.Ytdjfhcbkfeopoaa
