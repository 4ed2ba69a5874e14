/-
  DERIVED. GIVEN WITH THE SEED: THE CARDS: each row of YtaddhfehjapoiaaDoorRows.lean that lists a variable, with what it lists TIED to the program's text (the seventh form; the later family's looks); each row that meets fmt, with fmt's text TOLD by the authors' own Lean function (tested against real Go, not proved from fmt's source: count such statements apart). THE CARD IS WHAT COUNTS. Prove the row's statement (the work); the ties are given (YtaddhfehjapoiaaDoorTie.lean); close each card by the builder's one call (the guide's Derived/Test/ToyasCard.lean, 'card_holds'). Laid BY PROGRAM, IN A SANDBOX (cutbox-door.mjs). By AI agents, Wed Nov 11 2026. No macro, syntax, notation, axiom, sorry.
-/
import Derived.Test.YtaddhfehjapoiaaDoorRows
import GoSem.ClaimSeven
namespace Go.Proofs.YtaddhfehjapoiaaDoor
namespace Rows

/-- THE TIED CARD OF 'agiolaw18.FeesAll'. -/
def feesAllCard : Claim7 := { stood := { row := feesAllRow, standIns := [], harness := (true, "e48a8217b68573de61a9864b3c8b24bc36469e771ef019422c603687c90730ab"), looks := false }, kinds := [], alts := [], laidByText := true, laidKinds := [.data], laidTests := true, laidLooks := .later }
def FeesAllCardSaid : Prop := Claim7.holds Tryd.pinned (.plain (OpenSpec.ofChange feesAllSpec)) feesAllCard

/-- THE TIED CARD OF 'agiolaw18.FeesHolds'. -/
def feesHoldsCard : Claim7 := { stood := { row := feesHoldsRow, standIns := [], harness := (true, "e48a8217b68573de61a9864b3c8b24bc36469e771ef019422c603687c90730ab"), looks := false }, kinds := [], alts := [], laidByText := true, laidKinds := [.data], laidTests := true, laidLooks := .later }
def FeesHoldsCardSaid : Prop := Claim7.holds Tryd.pinned (.plain (OpenSpec.ofChange feesHoldsSpec)) feesHoldsCard

/-- THE TIED CARD OF 'agiolaw18.FeesEnough'. -/
def feesEnoughCard : Claim7 := { stood := { row := feesEnoughRow, standIns := [], harness := (true, "e48a8217b68573de61a9864b3c8b24bc36469e771ef019422c603687c90730ab"), looks := false }, kinds := [], alts := [], laidByText := true, laidKinds := [.data], laidTests := true, laidLooks := .later }
def FeesEnoughCardSaid : Prop := Claim7.holds Tryd.pinned (.plain (OpenSpec.ofChange feesEnoughSpec)) feesEnoughCard

/-- THE TIED CARD OF 'agiolaw18.FeesMost'. -/
def feesMostCard : Claim7 := { stood := { row := feesMostRow, standIns := [], harness := (true, "e48a8217b68573de61a9864b3c8b24bc36469e771ef019422c603687c90730ab"), looks := false }, kinds := [], alts := [], laidByText := true, laidKinds := [.data], laidTests := true, laidLooks := .later }
def FeesMostCardSaid : Prop := Claim7.holds Tryd.pinned (.plain (OpenSpec.ofChange feesMostSpec)) feesMostCard

/-- THE TIED CARD OF 'agiolaw18.FeesTiers'. -/
def feesTiersCard : Claim7 := { stood := { row := feesTiersRow, standIns := [], harness := (true, "e48a8217b68573de61a9864b3c8b24bc36469e771ef019422c603687c90730ab"), looks := false }, kinds := [], alts := [], laidByText := true, laidKinds := [.data], laidTests := true, laidLooks := .later }
def FeesTiersCardSaid : Prop := Claim7.holds Tryd.pinned (.plain (OpenSpec.ofChange feesTiersSpec)) feesTiersCard

/-- THE SECOND FORM's CARD OF 'agiolaw18.FeesAll'. -/
def feesAllUptoCard : Claim7 := { stood := { row := feesAllUptoRow, standIns := [], harness := (true, "e48a8217b68573de61a9864b3c8b24bc36469e771ef019422c603687c90730ab"), looks := false }, kinds := [], alts := [], laidByText := true, laidKinds := [.data], laidTests := true, laidLooks := .later }
def FeesAllUptoCardSaid : Prop := Claim7.holds Tryd.pinned (.plain (OpenSpec.upto feesAllSpec)) feesAllUptoCard

/-- THE SECOND FORM's CARD OF 'agiolaw18.FeesHolds'. -/
def feesHoldsUptoCard : Claim7 := { stood := { row := feesHoldsUptoRow, standIns := [], harness := (true, "e48a8217b68573de61a9864b3c8b24bc36469e771ef019422c603687c90730ab"), looks := false }, kinds := [], alts := [], laidByText := true, laidKinds := [.data], laidTests := true, laidLooks := .later }
def FeesHoldsUptoCardSaid : Prop := Claim7.holds Tryd.pinned (.plain (OpenSpec.upto feesHoldsSpec)) feesHoldsUptoCard

/-- THE SECOND FORM's CARD OF 'agiolaw18.FeesEnough'. -/
def feesEnoughUptoCard : Claim7 := { stood := { row := feesEnoughUptoRow, standIns := [], harness := (true, "e48a8217b68573de61a9864b3c8b24bc36469e771ef019422c603687c90730ab"), looks := false }, kinds := [], alts := [], laidByText := true, laidKinds := [.data], laidTests := true, laidLooks := .later }
def FeesEnoughUptoCardSaid : Prop := Claim7.holds Tryd.pinned (.plain (OpenSpec.upto feesEnoughSpec)) feesEnoughUptoCard

/-- THE SECOND FORM's CARD OF 'agiolaw18.FeesMost'. -/
def feesMostUptoCard : Claim7 := { stood := { row := feesMostUptoRow, standIns := [], harness := (true, "e48a8217b68573de61a9864b3c8b24bc36469e771ef019422c603687c90730ab"), looks := false }, kinds := [], alts := [], laidByText := true, laidKinds := [.data], laidTests := true, laidLooks := .later }
def FeesMostUptoCardSaid : Prop := Claim7.holds Tryd.pinned (.plain (OpenSpec.upto feesMostSpec)) feesMostUptoCard

/-- THE SECOND FORM's CARD OF 'agiolaw18.FeesTiers'. -/
def feesTiersUptoCard : Claim7 := { stood := { row := feesTiersUptoRow, standIns := [], harness := (true, "e48a8217b68573de61a9864b3c8b24bc36469e771ef019422c603687c90730ab"), looks := false }, kinds := [], alts := [], laidByText := true, laidKinds := [.data], laidTests := true, laidLooks := .later }
def FeesTiersUptoCardSaid : Prop := Claim7.holds Tryd.pinned (.plain (OpenSpec.upto feesTiersSpec)) feesTiersUptoCard
end Rows
end Go.Proofs.YtaddhfehjapoiaaDoor
