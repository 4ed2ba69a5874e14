/-
  No cell of these rows narrows 'for every input' (looked for: loops, veiled, ifaces, maps, wideKeys, modest, calm, conditions, laid).
  DERIVED. THE GIVEN ROWS OF THIS SEAT. 6 by the template 'for every input the law returns true; each argument reads behind the call as it read before'; 0 by the template 'total and deterministic' (their statements: YthkmjfgffofaoaaTotals.lean).
  GIVEN WITH THE SEED: the statements are not yours to turn. If you find one false, say at which input.
  Laid BY PROGRAM, IN A SANDBOX (cutbox-rows.mjs): the forced cells as the released guide's own fill.sh prints them over the translation f688fe68e31616cf… (all of the seat's roots in one cut). By AI agents, Wed Nov 11 2026. No macro, syntax, notation, axiom, sorry.
-/
import Derived.Test.YthkmjfgffofaoaaChecked
import GoSem.Claim
import GoSem.ClaimJoined
import GoSem.ClaimMapViews
import Derived.JoinedTies
import Derived.KernelRfl
namespace Go.Proofs.Ythkmjfgffofaoaa
/- THE CELL 'sum', in the pinned program and in every row, IS THE sha256 OF THE DUMP (.gsa) THAT YthkmjfgffofaoaaProg.lean LOADS. Nothing in Lean hashes anything: it is a label: what it is worth is what the hold of that sum in a sandbox is worth. -/
noncomputable def Try.pinned : Pinned := { name := "ythkmjfgffofaoaa", sum := "f688fe68e31616cfe6ba4d589dbb759a90e2260c7af73fe5a42d0fec61b152f1", checked := Try.checked }
namespace Rows
def none {H : Type} : Left H := { results := [], args := [] }

/-- 'agiolaw19.LedgerMost': WHATEVER THE INPUT: true; the input reads as it did. -/
def ledgerMostSpec : ChangeSpec := { name := "ledgerMost", fn := fun _ => fun
  | [d1, d2, d3, d4] => { results := [.lit (.bool true)], args := [d1, d2, d3, d4] }
  | _ => none }
def ledgerMostRow : OpenClaim := { program := "ythkmjfgffofaoaa", sum := "f688fe68e31616cfe6ba4d589dbb759a90e2260c7af73fe5a42d0fec61b152f1", func := "agio/agiolaw19.LedgerMost", spec := "ledgerMost", apart := false }
def LedgerMostSaid : Prop := ledgerMostRow.holds Try.pinned (OpenSpec.ofChange ledgerMostSpec)

/-- ITS FALSE NEIGHBOUR: 'it returns false'. Refute it at one input. -/
def ledgerMostWrong : ChangeSpec := { name := "ledgerMost", fn := fun _ => fun
  | [d1, d2, d3, d4] => { results := [.lit (.bool false)], args := [d1, d2, d3, d4] }
  | _ => none }
def LedgerMostWrongFalsely : Prop := ledgerMostRow.holds Try.pinned (OpenSpec.ofChange ledgerMostWrong)

/-- 'agiolaw19.LedgerPlays': WHATEVER THE INPUT: true; the input reads as it did. -/
def ledgerPlaysSpec : ChangeSpec := { name := "ledgerPlays", fn := fun _ => fun
  | [d] => { results := [.lit (.bool true)], args := [d] }
  | _ => none }
def ledgerPlaysRow : OpenClaim := { program := "ythkmjfgffofaoaa", sum := "f688fe68e31616cfe6ba4d589dbb759a90e2260c7af73fe5a42d0fec61b152f1", func := "agio/agiolaw19.LedgerPlays", spec := "ledgerPlays", apart := false }
def LedgerPlaysSaid : Prop := ledgerPlaysRow.holds Try.pinned (OpenSpec.ofChange ledgerPlaysSpec)

/-- ITS FALSE NEIGHBOUR: 'it returns false'. Refute it at one input. -/
def ledgerPlaysWrong : ChangeSpec := { name := "ledgerPlays", fn := fun _ => fun
  | [d] => { results := [.lit (.bool false)], args := [d] }
  | _ => none }
def LedgerPlaysWrongFalsely : Prop := ledgerPlaysRow.holds Try.pinned (OpenSpec.ofChange ledgerPlaysWrong)

/-- 'agiolaw19.LedgerKeeps': WHATEVER THE INPUT: true; the input reads as it did. -/
def ledgerKeepsSpec : ChangeSpec := { name := "ledgerKeeps", fn := fun _ => fun
  | [d] => { results := [.lit (.bool true)], args := [d] }
  | _ => none }
def ledgerKeepsRow : OpenClaim := { program := "ythkmjfgffofaoaa", sum := "f688fe68e31616cfe6ba4d589dbb759a90e2260c7af73fe5a42d0fec61b152f1", func := "agio/agiolaw19.LedgerKeeps", spec := "ledgerKeeps", apart := false }
def LedgerKeepsSaid : Prop := ledgerKeepsRow.holds Try.pinned (OpenSpec.ofChange ledgerKeepsSpec)

/-- ITS FALSE NEIGHBOUR: 'it returns false'. Refute it at one input. -/
def ledgerKeepsWrong : ChangeSpec := { name := "ledgerKeeps", fn := fun _ => fun
  | [d] => { results := [.lit (.bool false)], args := [d] }
  | _ => none }
def LedgerKeepsWrongFalsely : Prop := ledgerKeepsRow.holds Try.pinned (OpenSpec.ofChange ledgerKeepsWrong)

/-- 'agiolaw19.LedgerFails': WHATEVER THE INPUT: true; the input reads as it did. -/
def ledgerFailsSpec : ChangeSpec := { name := "ledgerFails", fn := fun _ => fun
  | [d1, d2] => { results := [.lit (.bool true)], args := [d1, d2] }
  | _ => none }
def ledgerFailsRow : OpenClaim := { program := "ythkmjfgffofaoaa", sum := "f688fe68e31616cfe6ba4d589dbb759a90e2260c7af73fe5a42d0fec61b152f1", func := "agio/agiolaw19.LedgerFails", spec := "ledgerFails", apart := false }
def LedgerFailsSaid : Prop := ledgerFailsRow.holds Try.pinned (OpenSpec.ofChange ledgerFailsSpec)

/-- ITS FALSE NEIGHBOUR: 'it returns false'. Refute it at one input. -/
def ledgerFailsWrong : ChangeSpec := { name := "ledgerFails", fn := fun _ => fun
  | [d1, d2] => { results := [.lit (.bool false)], args := [d1, d2] }
  | _ => none }
def LedgerFailsWrongFalsely : Prop := ledgerFailsRow.holds Try.pinned (OpenSpec.ofChange ledgerFailsWrong)

/-- 'agiolaw19.LedgerBack': WHATEVER THE INPUT: true; the input reads as it did. -/
def ledgerBackSpec : ChangeSpec := { name := "ledgerBack", fn := fun _ => fun
  | [d1, d2, d3, d4, d5] => { results := [.lit (.bool true)], args := [d1, d2, d3, d4, d5] }
  | _ => none }
def ledgerBackRow : OpenClaim := { program := "ythkmjfgffofaoaa", sum := "f688fe68e31616cfe6ba4d589dbb759a90e2260c7af73fe5a42d0fec61b152f1", func := "agio/agiolaw19.LedgerBack", spec := "ledgerBack", apart := false }
def LedgerBackSaid : Prop := ledgerBackRow.holds Try.pinned (OpenSpec.ofChange ledgerBackSpec)

/-- ITS FALSE NEIGHBOUR: 'it returns false'. Refute it at one input. -/
def ledgerBackWrong : ChangeSpec := { name := "ledgerBack", fn := fun _ => fun
  | [d1, d2, d3, d4, d5] => { results := [.lit (.bool false)], args := [d1, d2, d3, d4, d5] }
  | _ => none }
def LedgerBackWrongFalsely : Prop := ledgerBackRow.holds Try.pinned (OpenSpec.ofChange ledgerBackWrong)

/-- 'agiolaw19.LedgerNobody': WHATEVER THE INPUT: true; the input reads as it did. -/
def ledgerNobodySpec : ChangeSpec := { name := "ledgerNobody", fn := fun _ => fun
  | [d] => { results := [.lit (.bool true)], args := [d] }
  | _ => none }
def ledgerNobodyRow : OpenClaim := { program := "ythkmjfgffofaoaa", sum := "f688fe68e31616cfe6ba4d589dbb759a90e2260c7af73fe5a42d0fec61b152f1", func := "agio/agiolaw19.LedgerNobody", spec := "ledgerNobody", apart := false }
def LedgerNobodySaid : Prop := ledgerNobodyRow.holds Try.pinned (OpenSpec.ofChange ledgerNobodySpec)

/-- ITS FALSE NEIGHBOUR: 'it returns false'. Refute it at one input. -/
def ledgerNobodyWrong : ChangeSpec := { name := "ledgerNobody", fn := fun _ => fun
  | [d] => { results := [.lit (.bool false)], args := [d] }
  | _ => none }
def LedgerNobodyWrongFalsely : Prop := ledgerNobodyRow.holds Try.pinned (OpenSpec.ofChange ledgerNobodyWrong)

/- THE SECOND FORM. 'bulk': how many values and letters a reading holds, each counted each time it is reached (what is shared counts as often as it is met; a slice's spare places count too). A statement '..UptoSaid' is the law's where the arguments, and the package variables that the reading takes, are together of bulk at most 1048576: NARROWER than '..Said'. Prove '..Said' where nothing that the law and all that it calls make is longer than what came in: it says more and counts as full. Else prove '..UptoSaid'. A law counts once. -/
mutual
def uptoBulk {H : Type} : DataW H → Nat
  | .lit (.string bytes) => bytes.length + 1
  | .lit _ => 1
  | .nil => 1
  | .ptr d => uptoBulk d + 1
  | .slice elems spare => uptoBulkAll elems + uptoBulkAll spare + 1
  | .agg parts => uptoBulkAll parts + 1
  | .iface _ d => uptoBulk d + 1
  | .map entries => uptoBulkEntries entries + 1
  | .held _ => 1
def uptoBulkAll {H : Type} : List (DataW H) → Nat
  | [] => 0
  | d :: r => uptoBulk d + uptoBulkAll r
def uptoBulkEntries {H : Type} : List (Lit × DataW H) → Nat
  | [] => 0
  | x :: r => uptoBulkEntry x + uptoBulkEntries r
def uptoBulkEntry {H : Type} : Lit × DataW H → Nat
  | (.string bytes, d) => bytes.length + uptoBulk d + 1
  | (_, d) => uptoBulk d + 1
 end
def uptoSmall : (H : Type) → List (DataW H) → Bool := fun _ ds => decide (uptoBulkAll ds ≤ 1048576)
def OpenSpec.upto (s : _root_.Go.ChangeSpec) : _root_.Go.OpenSpec := { _root_.Go.OpenSpec.ofChange s with cond := some uptoSmall }

/-- 'agiolaw19.LedgerMost', WHERE WHAT IT READS IS OF BULK AT MOST 1048576: true; the input reads as it did. -/
def ledgerMostUptoRow : OpenClaim := { program := "ythkmjfgffofaoaa", sum := "f688fe68e31616cfe6ba4d589dbb759a90e2260c7af73fe5a42d0fec61b152f1", func := "agio/agiolaw19.LedgerMost", spec := "ledgerMost", apart := false, narrowed := true }
def LedgerMostUptoSaid : Prop := ledgerMostUptoRow.holds Try.pinned (OpenSpec.upto ledgerMostSpec)

/-- 'agiolaw19.LedgerPlays', WHERE WHAT IT READS IS OF BULK AT MOST 1048576: true; the input reads as it did. -/
def ledgerPlaysUptoRow : OpenClaim := { program := "ythkmjfgffofaoaa", sum := "f688fe68e31616cfe6ba4d589dbb759a90e2260c7af73fe5a42d0fec61b152f1", func := "agio/agiolaw19.LedgerPlays", spec := "ledgerPlays", apart := false, narrowed := true }
def LedgerPlaysUptoSaid : Prop := ledgerPlaysUptoRow.holds Try.pinned (OpenSpec.upto ledgerPlaysSpec)

/-- 'agiolaw19.LedgerKeeps', WHERE WHAT IT READS IS OF BULK AT MOST 1048576: true; the input reads as it did. -/
def ledgerKeepsUptoRow : OpenClaim := { program := "ythkmjfgffofaoaa", sum := "f688fe68e31616cfe6ba4d589dbb759a90e2260c7af73fe5a42d0fec61b152f1", func := "agio/agiolaw19.LedgerKeeps", spec := "ledgerKeeps", apart := false, narrowed := true }
def LedgerKeepsUptoSaid : Prop := ledgerKeepsUptoRow.holds Try.pinned (OpenSpec.upto ledgerKeepsSpec)

/-- 'agiolaw19.LedgerFails', WHERE WHAT IT READS IS OF BULK AT MOST 1048576: true; the input reads as it did. -/
def ledgerFailsUptoRow : OpenClaim := { program := "ythkmjfgffofaoaa", sum := "f688fe68e31616cfe6ba4d589dbb759a90e2260c7af73fe5a42d0fec61b152f1", func := "agio/agiolaw19.LedgerFails", spec := "ledgerFails", apart := false, narrowed := true }
def LedgerFailsUptoSaid : Prop := ledgerFailsUptoRow.holds Try.pinned (OpenSpec.upto ledgerFailsSpec)

/-- 'agiolaw19.LedgerBack', WHERE WHAT IT READS IS OF BULK AT MOST 1048576: true; the input reads as it did. -/
def ledgerBackUptoRow : OpenClaim := { program := "ythkmjfgffofaoaa", sum := "f688fe68e31616cfe6ba4d589dbb759a90e2260c7af73fe5a42d0fec61b152f1", func := "agio/agiolaw19.LedgerBack", spec := "ledgerBack", apart := false, narrowed := true }
def LedgerBackUptoSaid : Prop := ledgerBackUptoRow.holds Try.pinned (OpenSpec.upto ledgerBackSpec)

/-- 'agiolaw19.LedgerNobody', WHERE WHAT IT READS IS OF BULK AT MOST 1048576: true; the input reads as it did. -/
def ledgerNobodyUptoRow : OpenClaim := { program := "ythkmjfgffofaoaa", sum := "f688fe68e31616cfe6ba4d589dbb759a90e2260c7af73fe5a42d0fec61b152f1", func := "agio/agiolaw19.LedgerNobody", spec := "ledgerNobody", apart := false, narrowed := true }
def LedgerNobodyUptoSaid : Prop := ledgerNobodyUptoRow.holds Try.pinned (OpenSpec.upto ledgerNobodySpec)

end Rows
end Go.Proofs.Ythkmjfgffofaoaa
