/-
  No cell of these rows narrows 'for every input' (looked for: loops, veiled, ifaces, maps, wideKeys, modest, calm, conditions, laid).
  DERIVED. THE GIVEN ROWS OF THIS SEAT. 5 by the template 'for every input the law returns true; each argument reads behind the call as it read before'; 0 by the template 'total and deterministic' (their statements: YtnhdbnahigagjaaTotals.lean).
  GIVEN WITH THE SEED: the statements are not yours to turn. If you find one false, say at which input.
  Laid BY PROGRAM, IN A SANDBOX (cutbox-rows.mjs): the forced cells as the released guide's own fill.sh prints them over the translation 83817411c8d6b8cc… (all of the seat's roots in one cut). By AI agents, Wed Nov 11 2026. No macro, syntax, notation, axiom, sorry.
-/
import Derived.Test.YtnhdbnahigagjaaChecked
import GoSem.Claim
import GoSem.ClaimJoined
import GoSem.ClaimMapViews
import Derived.JoinedTies
import Derived.KernelRfl
namespace Go.Proofs.Ytnhdbnahigagjaa
/- THE CELL 'sum', in the pinned program and in every row, IS THE sha256 OF THE DUMP (.gsa) THAT YtnhdbnahigagjaaProg.lean LOADS. Nothing in Lean hashes anything: it is a label: what it is worth is what the hold of that sum in a sandbox is worth. -/
noncomputable def Try.pinned : Pinned := { name := "ytnhdbnahigagjaa", sum := "83817411c8d6b8cc498928409458cce93ca98b2985365323bb79a29ec51a295a", checked := Try.checked }
namespace Rows
def none {H : Type} : Left H := { results := [], args := [] }

/-- 'agiolaw15.BucketTakes': WHATEVER THE INPUT: true; the input reads as it did. -/
def bucketTakesSpec : ChangeSpec := { name := "bucketTakes", fn := fun _ => fun
  | [d] => { results := [.lit (.bool true)], args := [d] }
  | _ => none }
def bucketTakesRow : OpenClaim := { program := "ytnhdbnahigagjaa", sum := "83817411c8d6b8cc498928409458cce93ca98b2985365323bb79a29ec51a295a", func := "agio/agiolaw15.BucketTakes", spec := "bucketTakes", unfollowed := true, recurses := true, apart := false }
def BucketTakesSaid : Prop := bucketTakesRow.holds Try.pinned (OpenSpec.ofChange bucketTakesSpec)

/-- ITS FALSE NEIGHBOUR: 'it returns false'. Refute it at one input. -/
def bucketTakesWrong : ChangeSpec := { name := "bucketTakes", fn := fun _ => fun
  | [d] => { results := [.lit (.bool false)], args := [d] }
  | _ => none }
def BucketTakesWrongFalsely : Prop := bucketTakesRow.holds Try.pinned (OpenSpec.ofChange bucketTakesWrong)

/-- 'agiolaw15.BucketBound': WHATEVER THE INPUT: true; the input reads as it did. -/
def bucketBoundSpec : ChangeSpec := { name := "bucketBound", fn := fun _ => fun
  | [d1, d2, d3] => { results := [.lit (.bool true)], args := [d1, d2, d3] }
  | _ => none }
def bucketBoundRow : OpenClaim := { program := "ytnhdbnahigagjaa", sum := "83817411c8d6b8cc498928409458cce93ca98b2985365323bb79a29ec51a295a", func := "agio/agiolaw15.BucketBound", spec := "bucketBound", unfollowed := true, recurses := true, apart := false }
def BucketBoundSaid : Prop := bucketBoundRow.holds Try.pinned (OpenSpec.ofChange bucketBoundSpec)

/-- ITS FALSE NEIGHBOUR: 'it returns false'. Refute it at one input. -/
def bucketBoundWrong : ChangeSpec := { name := "bucketBound", fn := fun _ => fun
  | [d1, d2, d3] => { results := [.lit (.bool false)], args := [d1, d2, d3] }
  | _ => none }
def BucketBoundWrongFalsely : Prop := bucketBoundRow.holds Try.pinned (OpenSpec.ofChange bucketBoundWrong)

/-- 'agiolaw15.BucketSplits': WHATEVER THE INPUT: true; the input reads as it did. -/
def bucketSplitsSpec : ChangeSpec := { name := "bucketSplits", fn := fun _ => fun
  | [d] => { results := [.lit (.bool true)], args := [d] }
  | _ => none }
def bucketSplitsRow : OpenClaim := { program := "ytnhdbnahigagjaa", sum := "83817411c8d6b8cc498928409458cce93ca98b2985365323bb79a29ec51a295a", func := "agio/agiolaw15.BucketSplits", spec := "bucketSplits", unfollowed := true, recurses := true, apart := false }
def BucketSplitsSaid : Prop := bucketSplitsRow.holds Try.pinned (OpenSpec.ofChange bucketSplitsSpec)

/-- ITS FALSE NEIGHBOUR: 'it returns false'. Refute it at one input. -/
def bucketSplitsWrong : ChangeSpec := { name := "bucketSplits", fn := fun _ => fun
  | [d] => { results := [.lit (.bool false)], args := [d] }
  | _ => none }
def BucketSplitsWrongFalsely : Prop := bucketSplitsRow.holds Try.pinned (OpenSpec.ofChange bucketSplitsWrong)

/-- 'agiolaw15.BucketRefuses': WHATEVER THE INPUT: true; the input reads as it did. -/
def bucketRefusesSpec : ChangeSpec := { name := "bucketRefuses", fn := fun _ => fun
  | [d1, d2] => { results := [.lit (.bool true)], args := [d1, d2] }
  | _ => none }
def bucketRefusesRow : OpenClaim := { program := "ytnhdbnahigagjaa", sum := "83817411c8d6b8cc498928409458cce93ca98b2985365323bb79a29ec51a295a", func := "agio/agiolaw15.BucketRefuses", spec := "bucketRefuses", unfollowed := true, recurses := true, apart := false }
def BucketRefusesSaid : Prop := bucketRefusesRow.holds Try.pinned (OpenSpec.ofChange bucketRefusesSpec)

/-- ITS FALSE NEIGHBOUR: 'it returns false'. Refute it at one input. -/
def bucketRefusesWrong : ChangeSpec := { name := "bucketRefuses", fn := fun _ => fun
  | [d1, d2] => { results := [.lit (.bool false)], args := [d1, d2] }
  | _ => none }
def BucketRefusesWrongFalsely : Prop := bucketRefusesRow.holds Try.pinned (OpenSpec.ofChange bucketRefusesWrong)

/-- 'agiolaw15.BucketBack': WHATEVER THE INPUT: true; the input reads as it did. -/
def bucketBackSpec : ChangeSpec := { name := "bucketBack", fn := fun _ => fun
  | [d] => { results := [.lit (.bool true)], args := [d] }
  | _ => none }
def bucketBackRow : OpenClaim := { program := "ytnhdbnahigagjaa", sum := "83817411c8d6b8cc498928409458cce93ca98b2985365323bb79a29ec51a295a", func := "agio/agiolaw15.BucketBack", spec := "bucketBack", unfollowed := true, recurses := true, apart := false }
def BucketBackSaid : Prop := bucketBackRow.holds Try.pinned (OpenSpec.ofChange bucketBackSpec)

/-- ITS FALSE NEIGHBOUR: 'it returns false'. Refute it at one input. -/
def bucketBackWrong : ChangeSpec := { name := "bucketBack", fn := fun _ => fun
  | [d] => { results := [.lit (.bool false)], args := [d] }
  | _ => none }
def BucketBackWrongFalsely : Prop := bucketBackRow.holds Try.pinned (OpenSpec.ofChange bucketBackWrong)

/- THE SECOND FORM. 'bulk': how many values and letters a reading holds, each counted each time it is reached (what is shared counts as often as it is met; a slice's spare places count too). A statement '..UptoSaid' is the law's where the arguments, and the package variables that the reading takes, are together of bulk at most 1048576: NARROWER than '..Said'. Prove '..Said' where nothing that the law and all that it calls make is longer than what came in: it says more and counts as full. Else prove '..UptoSaid'. A law counts once. -/
mutual
def uptoBulk {H : Type} : DataW H → Nat
  | .lit (.string bytes) => bytes.length + 1
  | .lit _ => 1
  | .nil => 1
  | .ptr d => uptoBulk d + 1
  | .slice elems spare => uptoBulkAll elems + uptoBulkAll spare + 1
  | .agg parts => uptoBulkAll parts + 1
  | .iface _ d => uptoBulk d + 1
  | .map entries => uptoBulkEntries entries + 1
  | .held _ => 1
def uptoBulkAll {H : Type} : List (DataW H) → Nat
  | [] => 0
  | d :: r => uptoBulk d + uptoBulkAll r
def uptoBulkEntries {H : Type} : List (Lit × DataW H) → Nat
  | [] => 0
  | x :: r => uptoBulkEntry x + uptoBulkEntries r
def uptoBulkEntry {H : Type} : Lit × DataW H → Nat
  | (.string bytes, d) => bytes.length + uptoBulk d + 1
  | (_, d) => uptoBulk d + 1
 end
def uptoSmall : (H : Type) → List (DataW H) → Bool := fun _ ds => decide (uptoBulkAll ds ≤ 1048576)
def OpenSpec.upto (s : _root_.Go.ChangeSpec) : _root_.Go.OpenSpec := { _root_.Go.OpenSpec.ofChange s with cond := some uptoSmall }

/-- 'agiolaw15.BucketTakes', WHERE WHAT IT READS IS OF BULK AT MOST 1048576: true; the input reads as it did. -/
def bucketTakesUptoRow : OpenClaim := { program := "ytnhdbnahigagjaa", sum := "83817411c8d6b8cc498928409458cce93ca98b2985365323bb79a29ec51a295a", func := "agio/agiolaw15.BucketTakes", spec := "bucketTakes", unfollowed := true, recurses := true, apart := false, narrowed := true }
def BucketTakesUptoSaid : Prop := bucketTakesUptoRow.holds Try.pinned (OpenSpec.upto bucketTakesSpec)

/-- 'agiolaw15.BucketBound', WHERE WHAT IT READS IS OF BULK AT MOST 1048576: true; the input reads as it did. -/
def bucketBoundUptoRow : OpenClaim := { program := "ytnhdbnahigagjaa", sum := "83817411c8d6b8cc498928409458cce93ca98b2985365323bb79a29ec51a295a", func := "agio/agiolaw15.BucketBound", spec := "bucketBound", unfollowed := true, recurses := true, apart := false, narrowed := true }
def BucketBoundUptoSaid : Prop := bucketBoundUptoRow.holds Try.pinned (OpenSpec.upto bucketBoundSpec)

/-- 'agiolaw15.BucketSplits', WHERE WHAT IT READS IS OF BULK AT MOST 1048576: true; the input reads as it did. -/
def bucketSplitsUptoRow : OpenClaim := { program := "ytnhdbnahigagjaa", sum := "83817411c8d6b8cc498928409458cce93ca98b2985365323bb79a29ec51a295a", func := "agio/agiolaw15.BucketSplits", spec := "bucketSplits", unfollowed := true, recurses := true, apart := false, narrowed := true }
def BucketSplitsUptoSaid : Prop := bucketSplitsUptoRow.holds Try.pinned (OpenSpec.upto bucketSplitsSpec)

/-- 'agiolaw15.BucketRefuses', WHERE WHAT IT READS IS OF BULK AT MOST 1048576: true; the input reads as it did. -/
def bucketRefusesUptoRow : OpenClaim := { program := "ytnhdbnahigagjaa", sum := "83817411c8d6b8cc498928409458cce93ca98b2985365323bb79a29ec51a295a", func := "agio/agiolaw15.BucketRefuses", spec := "bucketRefuses", unfollowed := true, recurses := true, apart := false, narrowed := true }
def BucketRefusesUptoSaid : Prop := bucketRefusesUptoRow.holds Try.pinned (OpenSpec.upto bucketRefusesSpec)

/-- 'agiolaw15.BucketBack', WHERE WHAT IT READS IS OF BULK AT MOST 1048576: true; the input reads as it did. -/
def bucketBackUptoRow : OpenClaim := { program := "ytnhdbnahigagjaa", sum := "83817411c8d6b8cc498928409458cce93ca98b2985365323bb79a29ec51a295a", func := "agio/agiolaw15.BucketBack", spec := "bucketBack", unfollowed := true, recurses := true, apart := false, narrowed := true }
def BucketBackUptoSaid : Prop := bucketBackUptoRow.holds Try.pinned (OpenSpec.upto bucketBackSpec)

end Rows
end Go.Proofs.Ytnhdbnahigagjaa
