/-
  No cell of these rows narrows 'for every input' (looked for: loops, veiled, ifaces, maps, wideKeys, modest, calm, conditions, laid).
  DERIVED. THE GIVEN ROWS OF THIS SEAT. 6 by the template 'for every input the law returns true; each argument reads behind the call as it read before'; 0 by the template 'total and deterministic' (their statements: YtkgfikaojbfoiaaTotals.lean).
  GIVEN WITH THE SEED: the statements are not yours to turn. If you find one false, say at which input.
  Laid BY PROGRAM, IN A SANDBOX (cutbox-rows.mjs): the forced cells as the released guide's own fill.sh prints them over the translation 4c4654fffb7eb900… (all of the seat's roots in one cut). By AI agents, Wed Nov 11 2026. No macro, syntax, notation, axiom, sorry.
-/
import Derived.Test.YtkgfikaojbfoiaaChecked
import GoSem.Claim
import GoSem.ClaimJoined
import GoSem.ClaimMapViews
import Derived.JoinedTies
import Derived.KernelRfl
namespace Go.Proofs.Ytkgfikaojbfoiaa
/- THE CELL 'sum', in the pinned program and in every row, IS THE sha256 OF THE DUMP (.gsa) THAT YtkgfikaojbfoiaaProg.lean LOADS. Nothing in Lean hashes anything: it is a label: what it is worth is what the hold of that sum in a sandbox is worth. -/
noncomputable def Try.pinned : Pinned := { name := "ytkgfikaojbfoiaa", sum := "4c4654fffb7eb9000e167a5035393a8ffb5c2719f5870a637224abc213fa00dc", checked := Try.checked }
namespace Rows
def none {H : Type} : Left H := { results := [], args := [] }

/-- 'agiolaw14.TimerPlays': WHATEVER THE INPUT: true; the input reads as it did. -/
def timerPlaysSpec : ChangeSpec := { name := "timerPlays", fn := fun _ => fun
  | [d1, d2] => { results := [.lit (.bool true)], args := [d1, d2] }
  | _ => none }
def timerPlaysRow : OpenClaim := { program := "ytkgfikaojbfoiaa", sum := "4c4654fffb7eb9000e167a5035393a8ffb5c2719f5870a637224abc213fa00dc", func := "agio/agiolaw14.TimerPlays", spec := "timerPlays", apart := false }
def TimerPlaysSaid : Prop := timerPlaysRow.holds Try.pinned (OpenSpec.ofChange timerPlaysSpec)

/-- ITS FALSE NEIGHBOUR: 'it returns false'. Refute it at one input. -/
def timerPlaysWrong : ChangeSpec := { name := "timerPlays", fn := fun _ => fun
  | [d1, d2] => { results := [.lit (.bool false)], args := [d1, d2] }
  | _ => none }
def TimerPlaysWrongFalsely : Prop := timerPlaysRow.holds Try.pinned (OpenSpec.ofChange timerPlaysWrong)

/-- 'agiolaw14.TimerHeard': WHATEVER THE INPUT: true; the input reads as it did. -/
def timerHeardSpec : ChangeSpec := { name := "timerHeard", fn := fun _ => fun
  | [d1, d2, d3] => { results := [.lit (.bool true)], args := [d1, d2, d3] }
  | _ => none }
def timerHeardRow : OpenClaim := { program := "ytkgfikaojbfoiaa", sum := "4c4654fffb7eb9000e167a5035393a8ffb5c2719f5870a637224abc213fa00dc", func := "agio/agiolaw14.TimerHeard", spec := "timerHeard", apart := false }
def TimerHeardSaid : Prop := timerHeardRow.holds Try.pinned (OpenSpec.ofChange timerHeardSpec)

/-- ITS FALSE NEIGHBOUR: 'it returns false'. Refute it at one input. -/
def timerHeardWrong : ChangeSpec := { name := "timerHeard", fn := fun _ => fun
  | [d1, d2, d3] => { results := [.lit (.bool false)], args := [d1, d2, d3] }
  | _ => none }
def TimerHeardWrongFalsely : Prop := timerHeardRow.holds Try.pinned (OpenSpec.ofChange timerHeardWrong)

/-- 'agiolaw14.TimerSilent': WHATEVER THE INPUT: true; the input reads as it did. -/
def timerSilentSpec : ChangeSpec := { name := "timerSilent", fn := fun _ => fun
  | [d1, d2, d3] => { results := [.lit (.bool true)], args := [d1, d2, d3] }
  | _ => none }
def timerSilentRow : OpenClaim := { program := "ytkgfikaojbfoiaa", sum := "4c4654fffb7eb9000e167a5035393a8ffb5c2719f5870a637224abc213fa00dc", func := "agio/agiolaw14.TimerSilent", spec := "timerSilent", apart := false }
def TimerSilentSaid : Prop := timerSilentRow.holds Try.pinned (OpenSpec.ofChange timerSilentSpec)

/-- ITS FALSE NEIGHBOUR: 'it returns false'. Refute it at one input. -/
def timerSilentWrong : ChangeSpec := { name := "timerSilent", fn := fun _ => fun
  | [d1, d2, d3] => { results := [.lit (.bool false)], args := [d1, d2, d3] }
  | _ => none }
def TimerSilentWrongFalsely : Prop := timerSilentRow.holds Try.pinned (OpenSpec.ofChange timerSilentWrong)

/-- 'agiolaw14.TimerLeads': WHATEVER THE INPUT: true; the input reads as it did. -/
def timerLeadsSpec : ChangeSpec := { name := "timerLeads", fn := fun _ => fun
  | [d1, d2] => { results := [.lit (.bool true)], args := [d1, d2] }
  | _ => none }
def timerLeadsRow : OpenClaim := { program := "ytkgfikaojbfoiaa", sum := "4c4654fffb7eb9000e167a5035393a8ffb5c2719f5870a637224abc213fa00dc", func := "agio/agiolaw14.TimerLeads", spec := "timerLeads", apart := false }
def TimerLeadsSaid : Prop := timerLeadsRow.holds Try.pinned (OpenSpec.ofChange timerLeadsSpec)

/-- ITS FALSE NEIGHBOUR: 'it returns false'. Refute it at one input. -/
def timerLeadsWrong : ChangeSpec := { name := "timerLeads", fn := fun _ => fun
  | [d1, d2] => { results := [.lit (.bool false)], args := [d1, d2] }
  | _ => none }
def TimerLeadsWrongFalsely : Prop := timerLeadsRow.holds Try.pinned (OpenSpec.ofChange timerLeadsWrong)

/-- 'agiolaw14.TimerTicks': WHATEVER THE INPUT: true; the input reads as it did. -/
def timerTicksSpec : ChangeSpec := { name := "timerTicks", fn := fun _ => fun
  | [d1, d2] => { results := [.lit (.bool true)], args := [d1, d2] }
  | _ => none }
def timerTicksRow : OpenClaim := { program := "ytkgfikaojbfoiaa", sum := "4c4654fffb7eb9000e167a5035393a8ffb5c2719f5870a637224abc213fa00dc", func := "agio/agiolaw14.TimerTicks", spec := "timerTicks", apart := false }
def TimerTicksSaid : Prop := timerTicksRow.holds Try.pinned (OpenSpec.ofChange timerTicksSpec)

/-- ITS FALSE NEIGHBOUR: 'it returns false'. Refute it at one input. -/
def timerTicksWrong : ChangeSpec := { name := "timerTicks", fn := fun _ => fun
  | [d1, d2] => { results := [.lit (.bool false)], args := [d1, d2] }
  | _ => none }
def TimerTicksWrongFalsely : Prop := timerTicksRow.holds Try.pinned (OpenSpec.ofChange timerTicksWrong)

/-- 'agiolaw14.TimerNobody': WHATEVER THE INPUT: true; the input reads as it did. -/
def timerNobodySpec : ChangeSpec := { name := "timerNobody", fn := fun _ => fun
  | [d] => { results := [.lit (.bool true)], args := [d] }
  | _ => none }
def timerNobodyRow : OpenClaim := { program := "ytkgfikaojbfoiaa", sum := "4c4654fffb7eb9000e167a5035393a8ffb5c2719f5870a637224abc213fa00dc", func := "agio/agiolaw14.TimerNobody", spec := "timerNobody", apart := false }
def TimerNobodySaid : Prop := timerNobodyRow.holds Try.pinned (OpenSpec.ofChange timerNobodySpec)

/-- ITS FALSE NEIGHBOUR: 'it returns false'. Refute it at one input. -/
def timerNobodyWrong : ChangeSpec := { name := "timerNobody", fn := fun _ => fun
  | [d] => { results := [.lit (.bool false)], args := [d] }
  | _ => none }
def TimerNobodyWrongFalsely : Prop := timerNobodyRow.holds Try.pinned (OpenSpec.ofChange timerNobodyWrong)

/- THE SECOND FORM. 'bulk': how many values and letters a reading holds, each counted each time it is reached (what is shared counts as often as it is met; a slice's spare places count too). A statement '..UptoSaid' is the law's where the arguments, and the package variables that the reading takes, are together of bulk at most 1048576: NARROWER than '..Said'. Prove '..Said' where nothing that the law and all that it calls make is longer than what came in: it says more and counts as full. Else prove '..UptoSaid'. A law counts once. -/
mutual
def uptoBulk {H : Type} : DataW H → Nat
  | .lit (.string bytes) => bytes.length + 1
  | .lit _ => 1
  | .nil => 1
  | .ptr d => uptoBulk d + 1
  | .slice elems spare => uptoBulkAll elems + uptoBulkAll spare + 1
  | .agg parts => uptoBulkAll parts + 1
  | .iface _ d => uptoBulk d + 1
  | .map entries => uptoBulkEntries entries + 1
  | .held _ => 1
def uptoBulkAll {H : Type} : List (DataW H) → Nat
  | [] => 0
  | d :: r => uptoBulk d + uptoBulkAll r
def uptoBulkEntries {H : Type} : List (Lit × DataW H) → Nat
  | [] => 0
  | x :: r => uptoBulkEntry x + uptoBulkEntries r
def uptoBulkEntry {H : Type} : Lit × DataW H → Nat
  | (.string bytes, d) => bytes.length + uptoBulk d + 1
  | (_, d) => uptoBulk d + 1
 end
def uptoSmall : (H : Type) → List (DataW H) → Bool := fun _ ds => decide (uptoBulkAll ds ≤ 1048576)
def OpenSpec.upto (s : _root_.Go.ChangeSpec) : _root_.Go.OpenSpec := { _root_.Go.OpenSpec.ofChange s with cond := some uptoSmall }

/-- 'agiolaw14.TimerPlays', WHERE WHAT IT READS IS OF BULK AT MOST 1048576: true; the input reads as it did. -/
def timerPlaysUptoRow : OpenClaim := { program := "ytkgfikaojbfoiaa", sum := "4c4654fffb7eb9000e167a5035393a8ffb5c2719f5870a637224abc213fa00dc", func := "agio/agiolaw14.TimerPlays", spec := "timerPlays", apart := false, narrowed := true }
def TimerPlaysUptoSaid : Prop := timerPlaysUptoRow.holds Try.pinned (OpenSpec.upto timerPlaysSpec)

/-- 'agiolaw14.TimerHeard', WHERE WHAT IT READS IS OF BULK AT MOST 1048576: true; the input reads as it did. -/
def timerHeardUptoRow : OpenClaim := { program := "ytkgfikaojbfoiaa", sum := "4c4654fffb7eb9000e167a5035393a8ffb5c2719f5870a637224abc213fa00dc", func := "agio/agiolaw14.TimerHeard", spec := "timerHeard", apart := false, narrowed := true }
def TimerHeardUptoSaid : Prop := timerHeardUptoRow.holds Try.pinned (OpenSpec.upto timerHeardSpec)

/-- 'agiolaw14.TimerSilent', WHERE WHAT IT READS IS OF BULK AT MOST 1048576: true; the input reads as it did. -/
def timerSilentUptoRow : OpenClaim := { program := "ytkgfikaojbfoiaa", sum := "4c4654fffb7eb9000e167a5035393a8ffb5c2719f5870a637224abc213fa00dc", func := "agio/agiolaw14.TimerSilent", spec := "timerSilent", apart := false, narrowed := true }
def TimerSilentUptoSaid : Prop := timerSilentUptoRow.holds Try.pinned (OpenSpec.upto timerSilentSpec)

/-- 'agiolaw14.TimerLeads', WHERE WHAT IT READS IS OF BULK AT MOST 1048576: true; the input reads as it did. -/
def timerLeadsUptoRow : OpenClaim := { program := "ytkgfikaojbfoiaa", sum := "4c4654fffb7eb9000e167a5035393a8ffb5c2719f5870a637224abc213fa00dc", func := "agio/agiolaw14.TimerLeads", spec := "timerLeads", apart := false, narrowed := true }
def TimerLeadsUptoSaid : Prop := timerLeadsUptoRow.holds Try.pinned (OpenSpec.upto timerLeadsSpec)

/-- 'agiolaw14.TimerTicks', WHERE WHAT IT READS IS OF BULK AT MOST 1048576: true; the input reads as it did. -/
def timerTicksUptoRow : OpenClaim := { program := "ytkgfikaojbfoiaa", sum := "4c4654fffb7eb9000e167a5035393a8ffb5c2719f5870a637224abc213fa00dc", func := "agio/agiolaw14.TimerTicks", spec := "timerTicks", apart := false, narrowed := true }
def TimerTicksUptoSaid : Prop := timerTicksUptoRow.holds Try.pinned (OpenSpec.upto timerTicksSpec)

/-- 'agiolaw14.TimerNobody', WHERE WHAT IT READS IS OF BULK AT MOST 1048576: true; the input reads as it did. -/
def timerNobodyUptoRow : OpenClaim := { program := "ytkgfikaojbfoiaa", sum := "4c4654fffb7eb9000e167a5035393a8ffb5c2719f5870a637224abc213fa00dc", func := "agio/agiolaw14.TimerNobody", spec := "timerNobody", apart := false, narrowed := true }
def TimerNobodyUptoSaid : Prop := timerNobodyUptoRow.holds Try.pinned (OpenSpec.upto timerNobodySpec)

end Rows
end Go.Proofs.Ytkgfikaojbfoiaa
