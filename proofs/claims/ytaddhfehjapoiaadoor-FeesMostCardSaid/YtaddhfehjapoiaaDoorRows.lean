/-
  NARROWER THAN 'FOR EVERY INPUT', by the rows' own cells (each row's printed sentence says how): FeesAll: laid · FeesHolds: laid · FeesEnough: laid · FeesMost: laid · FeesTiers: laid.
  DERIVED. THE GIVEN ROWS OF THIS SEAT. 5 by the template 'for every input the law returns true; each argument reads behind the call as it read before'; 0 by the template 'total and deterministic' (their statements: YtaddhfehjapoiaaDoorTotals.lean).
  GIVEN WITH THE SEED: the statements are not yours to turn. If you find one false, say at which input.
  Laid BY PROGRAM, IN A SANDBOX (cutbox-rows.mjs): the forced cells as the released guide's own fill.sh prints them over the translation 00d522f19d9b65fc… (all of the seat's roots in one cut). By AI agents, Wed Nov 11 2026. No macro, syntax, notation, axiom, sorry.
-/
import Derived.Test.YtaddhfehjapoiaaDoorChecked
import GoSem.Claim
import GoSem.ClaimJoined
import GoSem.ClaimMapViews
import Derived.JoinedTies
import Derived.KernelRfl
namespace Go.Proofs.YtaddhfehjapoiaaDoor
/- THE CELL 'sum', in the pinned program and in every row, IS THE sha256 OF THE DUMP (.gsa) THAT YtaddhfehjapoiaaDoorProg.lean LOADS. Nothing in Lean hashes anything: it is a label: what it is worth is what the hold of that sum in a sandbox is worth. -/
noncomputable def Tryd.pinned : Pinned := { name := "ytaddhfehjapoiaadoor", sum := "00d522f19d9b65fce9dd7389dd876594d5bd9349d3803709d7868ae75f26fc0c", checked := Tryd.checked }
namespace Rows
def none {H : Type} : Left H := { results := [], args := [] }

/- WHAT THE LISTED PACKAGE-LEVEL VARIABLES READ AS WHEN THE CALL BEGINS. Each datum BY PROGRAM (the guide's laid-datum.mjs) off the statement by which the dump's own 'gosem.cut.vars' lays the variable. In a bare row this is a premise. The card (YtaddhfehjapoiaaDoorCards.lean) ties it to the program's text. -/
def laid_agio_fees_tiers {H : Type} : DataW H := .agg [.agg [.lit (.int .i64 0), .lit (.int .i64 10), .lit (.int .i64 20)], .agg [.lit (.int .i64 1000000), .lit (.int .i64 8), .lit (.int .i64 18)], .agg [.lit (.int .i64 100000000), .lit (.int .i64 5), .lit (.int .i64 15)], .agg [.lit (.int .i64 10000000000), .lit (.int .i64 0), .lit (.int .i64 10)]]

/-- 'agiolaw18.FeesAll': WHATEVER THE INPUT: true; the input reads as it did. -/
def feesAllSpec : ChangeSpec := { name := "feesAll", fn := fun _ => fun
  | [d1, d2, d3] => { results := [.lit (.bool true)], args := [d1, d2, d3] }
  | _ => none }
def feesAllRow : OpenClaim := { program := "ytaddhfehjapoiaadoor", sum := "00d522f19d9b65fce9dd7389dd876594d5bd9349d3803709d7868ae75f26fc0c", func := "agio/agiolaw18.FeesAll", spec := "feesAll", named := ["agio/fees.tiers", "math/bits.divideError", "math/bits.overflowError"], apart := false, laid := [("agio/fees.tiers", laid_agio_fees_tiers)] }
def FeesAllSaid : Prop := feesAllRow.holds Tryd.pinned (OpenSpec.ofChange feesAllSpec)

/-- ITS FALSE NEIGHBOUR: 'it returns false'. Refute it at one input. -/
def feesAllWrong : ChangeSpec := { name := "feesAll", fn := fun _ => fun
  | [d1, d2, d3] => { results := [.lit (.bool false)], args := [d1, d2, d3] }
  | _ => none }
def FeesAllWrongFalsely : Prop := feesAllRow.holds Tryd.pinned (OpenSpec.ofChange feesAllWrong)

/-- 'agiolaw18.FeesHolds': WHATEVER THE INPUT: true; the input reads as it did. -/
def feesHoldsSpec : ChangeSpec := { name := "feesHolds", fn := fun _ => fun
  | [d1, d2] => { results := [.lit (.bool true)], args := [d1, d2] }
  | _ => none }
def feesHoldsRow : OpenClaim := { program := "ytaddhfehjapoiaadoor", sum := "00d522f19d9b65fce9dd7389dd876594d5bd9349d3803709d7868ae75f26fc0c", func := "agio/agiolaw18.FeesHolds", spec := "feesHolds", named := ["agio/fees.tiers", "math/bits.divideError", "math/bits.overflowError"], apart := false, laid := [("agio/fees.tiers", laid_agio_fees_tiers)] }
def FeesHoldsSaid : Prop := feesHoldsRow.holds Tryd.pinned (OpenSpec.ofChange feesHoldsSpec)

/-- ITS FALSE NEIGHBOUR: 'it returns false'. Refute it at one input. -/
def feesHoldsWrong : ChangeSpec := { name := "feesHolds", fn := fun _ => fun
  | [d1, d2] => { results := [.lit (.bool false)], args := [d1, d2] }
  | _ => none }
def FeesHoldsWrongFalsely : Prop := feesHoldsRow.holds Tryd.pinned (OpenSpec.ofChange feesHoldsWrong)

/-- 'agiolaw18.FeesEnough': WHATEVER THE INPUT: true; the input reads as it did. -/
def feesEnoughSpec : ChangeSpec := { name := "feesEnough", fn := fun _ => fun
  | [d1, d2, d3] => { results := [.lit (.bool true)], args := [d1, d2, d3] }
  | _ => none }
def feesEnoughRow : OpenClaim := { program := "ytaddhfehjapoiaadoor", sum := "00d522f19d9b65fce9dd7389dd876594d5bd9349d3803709d7868ae75f26fc0c", func := "agio/agiolaw18.FeesEnough", spec := "feesEnough", named := ["agio/fees.tiers", "math/bits.divideError", "math/bits.overflowError"], apart := false, laid := [("agio/fees.tiers", laid_agio_fees_tiers)] }
def FeesEnoughSaid : Prop := feesEnoughRow.holds Tryd.pinned (OpenSpec.ofChange feesEnoughSpec)

/-- ITS FALSE NEIGHBOUR: 'it returns false'. Refute it at one input. -/
def feesEnoughWrong : ChangeSpec := { name := "feesEnough", fn := fun _ => fun
  | [d1, d2, d3] => { results := [.lit (.bool false)], args := [d1, d2, d3] }
  | _ => none }
def FeesEnoughWrongFalsely : Prop := feesEnoughRow.holds Tryd.pinned (OpenSpec.ofChange feesEnoughWrong)

/-- 'agiolaw18.FeesMost': WHATEVER THE INPUT: true; the input reads as it did. -/
def feesMostSpec : ChangeSpec := { name := "feesMost", fn := fun _ => fun
  | [d1, d2, d3] => { results := [.lit (.bool true)], args := [d1, d2, d3] }
  | _ => none }
def feesMostRow : OpenClaim := { program := "ytaddhfehjapoiaadoor", sum := "00d522f19d9b65fce9dd7389dd876594d5bd9349d3803709d7868ae75f26fc0c", func := "agio/agiolaw18.FeesMost", spec := "feesMost", named := ["agio/fees.tiers", "math/bits.divideError", "math/bits.overflowError"], apart := false, laid := [("agio/fees.tiers", laid_agio_fees_tiers)] }
def FeesMostSaid : Prop := feesMostRow.holds Tryd.pinned (OpenSpec.ofChange feesMostSpec)

/-- ITS FALSE NEIGHBOUR: 'it returns false'. Refute it at one input. -/
def feesMostWrong : ChangeSpec := { name := "feesMost", fn := fun _ => fun
  | [d1, d2, d3] => { results := [.lit (.bool false)], args := [d1, d2, d3] }
  | _ => none }
def FeesMostWrongFalsely : Prop := feesMostRow.holds Tryd.pinned (OpenSpec.ofChange feesMostWrong)

/-- 'agiolaw18.FeesTiers': WHATEVER THE INPUT: true; the input reads as it did. -/
def feesTiersSpec : ChangeSpec := { name := "feesTiers", fn := fun _ => fun
  | [d1, d2] => { results := [.lit (.bool true)], args := [d1, d2] }
  | _ => none }
def feesTiersRow : OpenClaim := { program := "ytaddhfehjapoiaadoor", sum := "00d522f19d9b65fce9dd7389dd876594d5bd9349d3803709d7868ae75f26fc0c", func := "agio/agiolaw18.FeesTiers", spec := "feesTiers", named := ["agio/fees.tiers", "math/bits.divideError", "math/bits.overflowError"], apart := false, laid := [("agio/fees.tiers", laid_agio_fees_tiers)] }
def FeesTiersSaid : Prop := feesTiersRow.holds Tryd.pinned (OpenSpec.ofChange feesTiersSpec)

/-- ITS FALSE NEIGHBOUR: 'it returns false'. Refute it at one input. -/
def feesTiersWrong : ChangeSpec := { name := "feesTiers", fn := fun _ => fun
  | [d1, d2] => { results := [.lit (.bool false)], args := [d1, d2] }
  | _ => none }
def FeesTiersWrongFalsely : Prop := feesTiersRow.holds Tryd.pinned (OpenSpec.ofChange feesTiersWrong)

/- THE SECOND FORM. 'bulk': how many values and letters a reading holds, each counted each time it is reached (what is shared counts as often as it is met; a slice's spare places count too). A statement '..UptoSaid' is the law's where the arguments, and the package variables that the reading takes, are together of bulk at most 1048576: NARROWER than '..Said'. Prove '..Said' where nothing that the law and all that it calls make is longer than what came in: it says more and counts as full. Else prove '..UptoSaid'. A law counts once. -/
mutual
def uptoBulk {H : Type} : DataW H → Nat
  | .lit (.string bytes) => bytes.length + 1
  | .lit _ => 1
  | .nil => 1
  | .ptr d => uptoBulk d + 1
  | .slice elems spare => uptoBulkAll elems + uptoBulkAll spare + 1
  | .agg parts => uptoBulkAll parts + 1
  | .iface _ d => uptoBulk d + 1
  | .map entries => uptoBulkEntries entries + 1
  | .held _ => 1
def uptoBulkAll {H : Type} : List (DataW H) → Nat
  | [] => 0
  | d :: r => uptoBulk d + uptoBulkAll r
def uptoBulkEntries {H : Type} : List (Lit × DataW H) → Nat
  | [] => 0
  | x :: r => uptoBulkEntry x + uptoBulkEntries r
def uptoBulkEntry {H : Type} : Lit × DataW H → Nat
  | (.string bytes, d) => bytes.length + uptoBulk d + 1
  | (_, d) => uptoBulk d + 1
 end
def uptoSmall : (H : Type) → List (DataW H) → Bool := fun _ ds => decide (uptoBulkAll ds ≤ 1048576)
def OpenSpec.upto (s : _root_.Go.ChangeSpec) : _root_.Go.OpenSpec := { _root_.Go.OpenSpec.ofChange s with cond := some uptoSmall }

/-- 'agiolaw18.FeesAll', WHERE WHAT IT READS IS OF BULK AT MOST 1048576: true; the input reads as it did. -/
def feesAllUptoRow : OpenClaim := { program := "ytaddhfehjapoiaadoor", sum := "00d522f19d9b65fce9dd7389dd876594d5bd9349d3803709d7868ae75f26fc0c", func := "agio/agiolaw18.FeesAll", spec := "feesAll", named := ["agio/fees.tiers", "math/bits.divideError", "math/bits.overflowError"], apart := false, laid := [("agio/fees.tiers", laid_agio_fees_tiers)], narrowed := true }
def FeesAllUptoSaid : Prop := feesAllUptoRow.holds Tryd.pinned (OpenSpec.upto feesAllSpec)

/-- 'agiolaw18.FeesHolds', WHERE WHAT IT READS IS OF BULK AT MOST 1048576: true; the input reads as it did. -/
def feesHoldsUptoRow : OpenClaim := { program := "ytaddhfehjapoiaadoor", sum := "00d522f19d9b65fce9dd7389dd876594d5bd9349d3803709d7868ae75f26fc0c", func := "agio/agiolaw18.FeesHolds", spec := "feesHolds", named := ["agio/fees.tiers", "math/bits.divideError", "math/bits.overflowError"], apart := false, laid := [("agio/fees.tiers", laid_agio_fees_tiers)], narrowed := true }
def FeesHoldsUptoSaid : Prop := feesHoldsUptoRow.holds Tryd.pinned (OpenSpec.upto feesHoldsSpec)

/-- 'agiolaw18.FeesEnough', WHERE WHAT IT READS IS OF BULK AT MOST 1048576: true; the input reads as it did. -/
def feesEnoughUptoRow : OpenClaim := { program := "ytaddhfehjapoiaadoor", sum := "00d522f19d9b65fce9dd7389dd876594d5bd9349d3803709d7868ae75f26fc0c", func := "agio/agiolaw18.FeesEnough", spec := "feesEnough", named := ["agio/fees.tiers", "math/bits.divideError", "math/bits.overflowError"], apart := false, laid := [("agio/fees.tiers", laid_agio_fees_tiers)], narrowed := true }
def FeesEnoughUptoSaid : Prop := feesEnoughUptoRow.holds Tryd.pinned (OpenSpec.upto feesEnoughSpec)

/-- 'agiolaw18.FeesMost', WHERE WHAT IT READS IS OF BULK AT MOST 1048576: true; the input reads as it did. -/
def feesMostUptoRow : OpenClaim := { program := "ytaddhfehjapoiaadoor", sum := "00d522f19d9b65fce9dd7389dd876594d5bd9349d3803709d7868ae75f26fc0c", func := "agio/agiolaw18.FeesMost", spec := "feesMost", named := ["agio/fees.tiers", "math/bits.divideError", "math/bits.overflowError"], apart := false, laid := [("agio/fees.tiers", laid_agio_fees_tiers)], narrowed := true }
def FeesMostUptoSaid : Prop := feesMostUptoRow.holds Tryd.pinned (OpenSpec.upto feesMostSpec)

/-- 'agiolaw18.FeesTiers', WHERE WHAT IT READS IS OF BULK AT MOST 1048576: true; the input reads as it did. -/
def feesTiersUptoRow : OpenClaim := { program := "ytaddhfehjapoiaadoor", sum := "00d522f19d9b65fce9dd7389dd876594d5bd9349d3803709d7868ae75f26fc0c", func := "agio/agiolaw18.FeesTiers", spec := "feesTiers", named := ["agio/fees.tiers", "math/bits.divideError", "math/bits.overflowError"], apart := false, laid := [("agio/fees.tiers", laid_agio_fees_tiers)], narrowed := true }
def FeesTiersUptoSaid : Prop := feesTiersUptoRow.holds Tryd.pinned (OpenSpec.upto feesTiersSpec)

end Rows
end Go.Proofs.YtaddhfehjapoiaaDoor
