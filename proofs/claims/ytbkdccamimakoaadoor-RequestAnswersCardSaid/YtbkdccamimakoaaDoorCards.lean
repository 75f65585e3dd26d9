/-
  DERIVED. GIVEN WITH THE SEED: THE CARDS: each row of YtbkdccamimakoaaDoorRows.lean that lists a variable, with what it lists TIED to the program's text (the seventh form; the later family's looks); each row that meets fmt, with fmt's text TOLD by the authors' own Lean function (tested against real Go, not proved from fmt's source: count such statements apart). THE CARD IS WHAT COUNTS. Prove the row's statement (the work); the ties are given (YtbkdccamimakoaaDoorTie.lean); close each card by the builder's one call (the guide's Derived/Test/ToyasCard.lean, 'card_holds'). Laid BY PROGRAM, IN A SANDBOX (cutbox-door.mjs). By AI agents, Wed Nov 11 2026. No macro, syntax, notation, axiom, sorry.
-/
import Derived.Test.YtbkdccamimakoaaDoorRows
import GoSem.ClaimSeven
namespace Go.Proofs.YtbkdccamimakoaaDoor
namespace Rows

/-- THE TIED CARD OF 'deponentlaw18.RequestReads'. -/
def requestReadsCard : Claim7 := { stood := { row := requestReadsRow, standIns := [], harness := (true, "0e314969dfe95231935c9d0bfaf25aa42d8637c2136762d26b3d2dd1fb4fd664"), looks := true }, kinds := [], alts := [], laidByText := true, laidKinds := [.handle], laidTests := true, laidLooks := .later }
def RequestReadsCardSaid : Prop := Claim7.holds Tryd.pinned (.plain (OpenSpec.ofChange requestReadsSpec)) requestReadsCard

/-- THE TIED CARD OF 'deponentlaw18.RequestBack'. -/
def requestBackCard : Claim7 := { stood := { row := requestBackRow, standIns := [], harness := (true, "0e314969dfe95231935c9d0bfaf25aa42d8637c2136762d26b3d2dd1fb4fd664"), looks := true }, kinds := [], alts := [], laidByText := true, laidKinds := [.handle], laidTests := true, laidLooks := .later }
def RequestBackCardSaid : Prop := Claim7.holds Tryd.pinned (.plain (OpenSpec.ofChange requestBackSpec)) requestBackCard

/-- THE TIED CARD OF 'deponentlaw18.RequestAnswers'. -/
def requestAnswersCard : Claim7 := { stood := { row := requestAnswersRow, standIns := [], harness := (true, "0e314969dfe95231935c9d0bfaf25aa42d8637c2136762d26b3d2dd1fb4fd664"), looks := true }, kinds := [], alts := [], laidByText := true, laidKinds := [.handle], laidTests := true, laidLooks := .later }
def RequestAnswersCardSaid : Prop := Claim7.holds Tryd.pinned (.plain (OpenSpec.ofChange requestAnswersSpec)) requestAnswersCard

/-- THE TIED CARD OF 'deponentlaw18.RequestNumbers'. -/
def requestNumbersCard : Claim7 := { stood := { row := requestNumbersRow, standIns := [], harness := (true, "0e314969dfe95231935c9d0bfaf25aa42d8637c2136762d26b3d2dd1fb4fd664"), looks := true }, kinds := [], alts := [], laidByText := true, laidKinds := [.handle], laidTests := true, laidLooks := .later }
def RequestNumbersCardSaid : Prop := Claim7.holds Tryd.pinned (.plain (OpenSpec.ofChange requestNumbersSpec)) requestNumbersCard

/-- THE SECOND FORM's CARD OF 'deponentlaw18.RequestReads'. -/
def requestReadsUptoCard : Claim7 := { stood := { row := requestReadsUptoRow, standIns := [], harness := (true, "0e314969dfe95231935c9d0bfaf25aa42d8637c2136762d26b3d2dd1fb4fd664"), looks := true }, kinds := [], alts := [], laidByText := true, laidKinds := [.handle], laidTests := true, laidLooks := .later }
def RequestReadsUptoCardSaid : Prop := Claim7.holds Tryd.pinned (.plain (OpenSpec.upto requestReadsSpec)) requestReadsUptoCard

/-- THE SECOND FORM's CARD OF 'deponentlaw18.RequestBack'. -/
def requestBackUptoCard : Claim7 := { stood := { row := requestBackUptoRow, standIns := [], harness := (true, "0e314969dfe95231935c9d0bfaf25aa42d8637c2136762d26b3d2dd1fb4fd664"), looks := true }, kinds := [], alts := [], laidByText := true, laidKinds := [.handle], laidTests := true, laidLooks := .later }
def RequestBackUptoCardSaid : Prop := Claim7.holds Tryd.pinned (.plain (OpenSpec.upto requestBackSpec)) requestBackUptoCard

/-- THE SECOND FORM's CARD OF 'deponentlaw18.RequestAnswers'. -/
def requestAnswersUptoCard : Claim7 := { stood := { row := requestAnswersUptoRow, standIns := [], harness := (true, "0e314969dfe95231935c9d0bfaf25aa42d8637c2136762d26b3d2dd1fb4fd664"), looks := true }, kinds := [], alts := [], laidByText := true, laidKinds := [.handle], laidTests := true, laidLooks := .later }
def RequestAnswersUptoCardSaid : Prop := Claim7.holds Tryd.pinned (.plain (OpenSpec.upto requestAnswersSpec)) requestAnswersUptoCard

/-- THE SECOND FORM's CARD OF 'deponentlaw18.RequestNumbers'. -/
def requestNumbersUptoCard : Claim7 := { stood := { row := requestNumbersUptoRow, standIns := [], harness := (true, "0e314969dfe95231935c9d0bfaf25aa42d8637c2136762d26b3d2dd1fb4fd664"), looks := true }, kinds := [], alts := [], laidByText := true, laidKinds := [.handle], laidTests := true, laidLooks := .later }
def RequestNumbersUptoCardSaid : Prop := Claim7.holds Tryd.pinned (.plain (OpenSpec.upto requestNumbersSpec)) requestNumbersUptoCard
end Rows
end Go.Proofs.YtbkdccamimakoaaDoor
