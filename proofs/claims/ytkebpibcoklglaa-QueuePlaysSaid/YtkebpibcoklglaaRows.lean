/-
  No cell of these rows narrows 'for every input' (looked for: loops, veiled, ifaces, maps, wideKeys, modest, calm, conditions, laid).
  DERIVED. THE GIVEN ROWS OF THIS SEAT. 6 by the template 'for every input the law returns true; each argument reads behind the call as it read before'; 0 by the template 'total and deterministic' (their statements: YtkebpibcoklglaaTotals.lean).
  GIVEN WITH THE SEED: the statements are not yours to turn. If you find one false, say at which input.
  Laid BY PROGRAM, IN A SANDBOX (cutbox-rows.mjs): the forced cells as the released guide's own fill.sh prints them over the translation a3e64588c7cee6be… (all of the seat's roots in one cut). By AI agents, Wed Nov 11 2026. No macro, syntax, notation, axiom, sorry.
-/
import Derived.Test.YtkebpibcoklglaaChecked
import GoSem.Claim
import GoSem.ClaimJoined
import GoSem.ClaimMapViews
import Derived.JoinedTies
import Derived.KernelRfl
namespace Go.Proofs.Ytkebpibcoklglaa
/- THE CELL 'sum', in the pinned program and in every row, IS THE sha256 OF THE DUMP (.gsa) THAT YtkebpibcoklglaaProg.lean LOADS. Nothing in Lean hashes anything: it is a label: what it is worth is what the hold of that sum in a sandbox is worth. -/
noncomputable def Try.pinned : Pinned := { name := "ytkebpibcoklglaa", sum := "a3e64588c7cee6be4524ba1c4ba543807362e3b3054a20fec81245078c6a89da", checked := Try.checked }
namespace Rows
def none {H : Type} : Left H := { results := [], args := [] }

/-- 'agiolaw17.QueueFails': WHATEVER THE INPUT: true; the input reads as it did. -/
def queueFailsSpec : ChangeSpec := { name := "queueFails", fn := fun _ => fun
  | [d1, d2, d3] => { results := [.lit (.bool true)], args := [d1, d2, d3] }
  | _ => none }
def queueFailsRow : OpenClaim := { program := "ytkebpibcoklglaa", sum := "a3e64588c7cee6be4524ba1c4ba543807362e3b3054a20fec81245078c6a89da", func := "agio/agiolaw17.QueueFails", spec := "queueFails", unfollowed := true, recurses := true, apart := false }
def QueueFailsSaid : Prop := queueFailsRow.holds Try.pinned (OpenSpec.ofChange queueFailsSpec)

/-- ITS FALSE NEIGHBOUR: 'it returns false'. Refute it at one input. -/
def queueFailsWrong : ChangeSpec := { name := "queueFails", fn := fun _ => fun
  | [d1, d2, d3] => { results := [.lit (.bool false)], args := [d1, d2, d3] }
  | _ => none }
def QueueFailsWrongFalsely : Prop := queueFailsRow.holds Try.pinned (OpenSpec.ofChange queueFailsWrong)

/-- 'agiolaw17.QueueLast': WHATEVER THE INPUT: true; the input reads as it did. -/
def queueLastSpec : ChangeSpec := { name := "queueLast", fn := fun _ => fun
  | [d1, d2] => { results := [.lit (.bool true)], args := [d1, d2] }
  | _ => none }
def queueLastRow : OpenClaim := { program := "ytkebpibcoklglaa", sum := "a3e64588c7cee6be4524ba1c4ba543807362e3b3054a20fec81245078c6a89da", func := "agio/agiolaw17.QueueLast", spec := "queueLast", unfollowed := true, recurses := true, apart := false }
def QueueLastSaid : Prop := queueLastRow.holds Try.pinned (OpenSpec.ofChange queueLastSpec)

/-- ITS FALSE NEIGHBOUR: 'it returns false'. Refute it at one input. -/
def queueLastWrong : ChangeSpec := { name := "queueLast", fn := fun _ => fun
  | [d1, d2] => { results := [.lit (.bool false)], args := [d1, d2] }
  | _ => none }
def QueueLastWrongFalsely : Prop := queueLastRow.holds Try.pinned (OpenSpec.ofChange queueLastWrong)

/-- 'agiolaw17.QueueRanks': WHATEVER THE INPUT: true; the input reads as it did. -/
def queueRanksSpec : ChangeSpec := { name := "queueRanks", fn := fun _ => fun
  | [d1, d2, d3] => { results := [.lit (.bool true)], args := [d1, d2, d3] }
  | _ => none }
def queueRanksRow : OpenClaim := { program := "ytkebpibcoklglaa", sum := "a3e64588c7cee6be4524ba1c4ba543807362e3b3054a20fec81245078c6a89da", func := "agio/agiolaw17.QueueRanks", spec := "queueRanks", unfollowed := true, recurses := true, apart := false }
def QueueRanksSaid : Prop := queueRanksRow.holds Try.pinned (OpenSpec.ofChange queueRanksSpec)

/-- ITS FALSE NEIGHBOUR: 'it returns false'. Refute it at one input. -/
def queueRanksWrong : ChangeSpec := { name := "queueRanks", fn := fun _ => fun
  | [d1, d2, d3] => { results := [.lit (.bool false)], args := [d1, d2, d3] }
  | _ => none }
def QueueRanksWrongFalsely : Prop := queueRanksRow.holds Try.pinned (OpenSpec.ofChange queueRanksWrong)

/-- 'agiolaw17.QueueFull': WHATEVER THE INPUT: true; the input reads as it did. -/
def queueFullSpec : ChangeSpec := { name := "queueFull", fn := fun _ => fun
  | [d1, d2] => { results := [.lit (.bool true)], args := [d1, d2] }
  | _ => none }
def queueFullRow : OpenClaim := { program := "ytkebpibcoklglaa", sum := "a3e64588c7cee6be4524ba1c4ba543807362e3b3054a20fec81245078c6a89da", func := "agio/agiolaw17.QueueFull", spec := "queueFull", unfollowed := true, recurses := true, apart := false }
def QueueFullSaid : Prop := queueFullRow.holds Try.pinned (OpenSpec.ofChange queueFullSpec)

/-- ITS FALSE NEIGHBOUR: 'it returns false'. Refute it at one input. -/
def queueFullWrong : ChangeSpec := { name := "queueFull", fn := fun _ => fun
  | [d1, d2] => { results := [.lit (.bool false)], args := [d1, d2] }
  | _ => none }
def QueueFullWrongFalsely : Prop := queueFullRow.holds Try.pinned (OpenSpec.ofChange queueFullWrong)

/-- 'agiolaw17.QueuePlays': WHATEVER THE INPUT: true; the input reads as it did. -/
def queuePlaysSpec : ChangeSpec := { name := "queuePlays", fn := fun _ => fun
  | [d] => { results := [.lit (.bool true)], args := [d] }
  | _ => none }
def queuePlaysRow : OpenClaim := { program := "ytkebpibcoklglaa", sum := "a3e64588c7cee6be4524ba1c4ba543807362e3b3054a20fec81245078c6a89da", func := "agio/agiolaw17.QueuePlays", spec := "queuePlays", unfollowed := true, recurses := true, apart := false }
def QueuePlaysSaid : Prop := queuePlaysRow.holds Try.pinned (OpenSpec.ofChange queuePlaysSpec)

/-- ITS FALSE NEIGHBOUR: 'it returns false'. Refute it at one input. -/
def queuePlaysWrong : ChangeSpec := { name := "queuePlays", fn := fun _ => fun
  | [d] => { results := [.lit (.bool false)], args := [d] }
  | _ => none }
def QueuePlaysWrongFalsely : Prop := queuePlaysRow.holds Try.pinned (OpenSpec.ofChange queuePlaysWrong)

/-- 'agiolaw17.QueueNobody': WHATEVER THE INPUT: true; the input reads as it did. -/
def queueNobodySpec : ChangeSpec := { name := "queueNobody", fn := fun _ => fun
  | [d1, d2] => { results := [.lit (.bool true)], args := [d1, d2] }
  | _ => none }
def queueNobodyRow : OpenClaim := { program := "ytkebpibcoklglaa", sum := "a3e64588c7cee6be4524ba1c4ba543807362e3b3054a20fec81245078c6a89da", func := "agio/agiolaw17.QueueNobody", spec := "queueNobody", unfollowed := true, recurses := true, apart := false }
def QueueNobodySaid : Prop := queueNobodyRow.holds Try.pinned (OpenSpec.ofChange queueNobodySpec)

/-- ITS FALSE NEIGHBOUR: 'it returns false'. Refute it at one input. -/
def queueNobodyWrong : ChangeSpec := { name := "queueNobody", fn := fun _ => fun
  | [d1, d2] => { results := [.lit (.bool false)], args := [d1, d2] }
  | _ => none }
def QueueNobodyWrongFalsely : Prop := queueNobodyRow.holds Try.pinned (OpenSpec.ofChange queueNobodyWrong)

/- THE SECOND FORM. 'bulk': how many values and letters a reading holds, each counted each time it is reached (what is shared counts as often as it is met; a slice's spare places count too). A statement '..UptoSaid' is the law's where the arguments, and the package variables that the reading takes, are together of bulk at most 1048576: NARROWER than '..Said'. Prove '..Said' where nothing that the law and all that it calls make is longer than what came in: it says more and counts as full. Else prove '..UptoSaid'. A law counts once. -/
mutual
def uptoBulk {H : Type} : DataW H → Nat
  | .lit (.string bytes) => bytes.length + 1
  | .lit _ => 1
  | .nil => 1
  | .ptr d => uptoBulk d + 1
  | .slice elems spare => uptoBulkAll elems + uptoBulkAll spare + 1
  | .agg parts => uptoBulkAll parts + 1
  | .iface _ d => uptoBulk d + 1
  | .map entries => uptoBulkEntries entries + 1
  | .held _ => 1
def uptoBulkAll {H : Type} : List (DataW H) → Nat
  | [] => 0
  | d :: r => uptoBulk d + uptoBulkAll r
def uptoBulkEntries {H : Type} : List (Lit × DataW H) → Nat
  | [] => 0
  | x :: r => uptoBulkEntry x + uptoBulkEntries r
def uptoBulkEntry {H : Type} : Lit × DataW H → Nat
  | (.string bytes, d) => bytes.length + uptoBulk d + 1
  | (_, d) => uptoBulk d + 1
 end
def uptoSmall : (H : Type) → List (DataW H) → Bool := fun _ ds => decide (uptoBulkAll ds ≤ 1048576)
def OpenSpec.upto (s : _root_.Go.ChangeSpec) : _root_.Go.OpenSpec := { _root_.Go.OpenSpec.ofChange s with cond := some uptoSmall }

/-- 'agiolaw17.QueueFails', WHERE WHAT IT READS IS OF BULK AT MOST 1048576: true; the input reads as it did. -/
def queueFailsUptoRow : OpenClaim := { program := "ytkebpibcoklglaa", sum := "a3e64588c7cee6be4524ba1c4ba543807362e3b3054a20fec81245078c6a89da", func := "agio/agiolaw17.QueueFails", spec := "queueFails", unfollowed := true, recurses := true, apart := false, narrowed := true }
def QueueFailsUptoSaid : Prop := queueFailsUptoRow.holds Try.pinned (OpenSpec.upto queueFailsSpec)

/-- 'agiolaw17.QueueLast', WHERE WHAT IT READS IS OF BULK AT MOST 1048576: true; the input reads as it did. -/
def queueLastUptoRow : OpenClaim := { program := "ytkebpibcoklglaa", sum := "a3e64588c7cee6be4524ba1c4ba543807362e3b3054a20fec81245078c6a89da", func := "agio/agiolaw17.QueueLast", spec := "queueLast", unfollowed := true, recurses := true, apart := false, narrowed := true }
def QueueLastUptoSaid : Prop := queueLastUptoRow.holds Try.pinned (OpenSpec.upto queueLastSpec)

/-- 'agiolaw17.QueueRanks', WHERE WHAT IT READS IS OF BULK AT MOST 1048576: true; the input reads as it did. -/
def queueRanksUptoRow : OpenClaim := { program := "ytkebpibcoklglaa", sum := "a3e64588c7cee6be4524ba1c4ba543807362e3b3054a20fec81245078c6a89da", func := "agio/agiolaw17.QueueRanks", spec := "queueRanks", unfollowed := true, recurses := true, apart := false, narrowed := true }
def QueueRanksUptoSaid : Prop := queueRanksUptoRow.holds Try.pinned (OpenSpec.upto queueRanksSpec)

/-- 'agiolaw17.QueueFull', WHERE WHAT IT READS IS OF BULK AT MOST 1048576: true; the input reads as it did. -/
def queueFullUptoRow : OpenClaim := { program := "ytkebpibcoklglaa", sum := "a3e64588c7cee6be4524ba1c4ba543807362e3b3054a20fec81245078c6a89da", func := "agio/agiolaw17.QueueFull", spec := "queueFull", unfollowed := true, recurses := true, apart := false, narrowed := true }
def QueueFullUptoSaid : Prop := queueFullUptoRow.holds Try.pinned (OpenSpec.upto queueFullSpec)

/-- 'agiolaw17.QueuePlays', WHERE WHAT IT READS IS OF BULK AT MOST 1048576: true; the input reads as it did. -/
def queuePlaysUptoRow : OpenClaim := { program := "ytkebpibcoklglaa", sum := "a3e64588c7cee6be4524ba1c4ba543807362e3b3054a20fec81245078c6a89da", func := "agio/agiolaw17.QueuePlays", spec := "queuePlays", unfollowed := true, recurses := true, apart := false, narrowed := true }
def QueuePlaysUptoSaid : Prop := queuePlaysUptoRow.holds Try.pinned (OpenSpec.upto queuePlaysSpec)

/-- 'agiolaw17.QueueNobody', WHERE WHAT IT READS IS OF BULK AT MOST 1048576: true; the input reads as it did. -/
def queueNobodyUptoRow : OpenClaim := { program := "ytkebpibcoklglaa", sum := "a3e64588c7cee6be4524ba1c4ba543807362e3b3054a20fec81245078c6a89da", func := "agio/agiolaw17.QueueNobody", spec := "queueNobody", unfollowed := true, recurses := true, apart := false, narrowed := true }
def QueueNobodyUptoSaid : Prop := queueNobodyUptoRow.holds Try.pinned (OpenSpec.upto queueNobodySpec)

end Rows
end Go.Proofs.Ytkebpibcoklglaa
