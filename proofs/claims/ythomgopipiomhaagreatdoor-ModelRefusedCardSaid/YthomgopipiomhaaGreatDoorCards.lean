/-
  DERIVED. GIVEN WITH THE SEED: THE CARDS: each row of YthomgopipiomhaaGreatDoorRows.lean that lists a variable, with what it lists TIED to the program's text (the seventh form; the later family's looks); each row that meets fmt, with fmt's text TOLD by the authors' own Lean function (tested against real Go, not proved from fmt's source: count such statements apart). THE CARD IS WHAT COUNTS. Prove the row's statement (the work); the ties are given (YthomgopipiomhaaGreatDoorTie.lean); close each card by the builder's one call (the guide's Derived/Test/ToyasCard.lean, 'card_holds'). Laid BY PROGRAM, IN A SANDBOX (cutbox-door.mjs). By AI agents, Wed Nov 11 2026. No macro, syntax, notation, axiom, sorry.
-/
import Derived.Test.YthomgopipiomhaaGreatDoorRows
import GoSem.ClaimSeven
namespace Go.Proofs.YthomgopipiomhaaGreatDoor
namespace Rows

/-- THE TIED CARD OF 'deponentlaw20.ModelAsks'. -/
def modelAsksCard : Claim7 := { stood := { row := modelAsksRow, standIns := [], harness := (true, "40974f8616441542e0757a05cfbad25c06f4bfa8f6f1a48af3eab915ef2ebe92"), looks := true }, kinds := [], alts := [], laidByText := true, laidKinds := [.data, .data, .handle], laidTests := true, laidLooks := .later }
def ModelAsksCardSaid : Prop := Claim7.holds Tryz.pinned (.plain (OpenSpec.ofChange modelAsksSpec)) modelAsksCard

/-- THE TIED CARD OF 'deponentlaw20.ModelTurns'. -/
def modelTurnsCard : Claim7 := { stood := { row := modelTurnsRow, standIns := [], harness := (true, "40974f8616441542e0757a05cfbad25c06f4bfa8f6f1a48af3eab915ef2ebe92"), looks := true }, kinds := [], alts := [], laidByText := true, laidKinds := [.data, .data, .handle], laidTests := true, laidLooks := .later }
def ModelTurnsCardSaid : Prop := Claim7.holds Tryz.pinned (.plain (OpenSpec.ofChange modelTurnsSpec)) modelTurnsCard

/-- THE TIED CARD OF 'deponentlaw20.ModelNumbers'. -/
def modelNumbersCard : Claim7 := { stood := { row := modelNumbersRow, standIns := [], harness := (true, "40974f8616441542e0757a05cfbad25c06f4bfa8f6f1a48af3eab915ef2ebe92"), looks := true }, kinds := [], alts := [], laidByText := true, laidKinds := [.data, .data, .handle], laidTests := true, laidLooks := .later }
def ModelNumbersCardSaid : Prop := Claim7.holds Tryz.pinned (.plain (OpenSpec.ofChange modelNumbersSpec)) modelNumbersCard

/-- THE TIED CARD OF 'deponentlaw20.ModelStays'. -/
def modelStaysCard : Claim7 := { stood := { row := modelStaysRow, standIns := [], harness := (true, "40974f8616441542e0757a05cfbad25c06f4bfa8f6f1a48af3eab915ef2ebe92"), looks := true }, kinds := [], alts := [], laidByText := true, laidKinds := [.data, .data, .handle], laidTests := true, laidLooks := .later }
def ModelStaysCardSaid : Prop := Claim7.holds Tryz.pinned (.plain (OpenSpec.ofChange modelStaysSpec)) modelStaysCard

/-- THE TIED CARD OF 'deponentlaw20.ModelLooks'. -/
def modelLooksCard : Claim7 := { stood := { row := modelLooksRow, standIns := [], harness := (true, "40974f8616441542e0757a05cfbad25c06f4bfa8f6f1a48af3eab915ef2ebe92"), looks := true }, kinds := [], alts := [], laidByText := true, laidKinds := [.data, .data, .handle], laidTests := true, laidLooks := .later }
def ModelLooksCardSaid : Prop := Claim7.holds Tryz.pinned (.plain (OpenSpec.ofChange modelLooksSpec)) modelLooksCard

/-- THE TIED CARD OF 'deponentlaw20.ModelWritten'. -/
def modelWrittenCard : Claim7 := { stood := { row := modelWrittenRow, standIns := [], harness := (true, "40974f8616441542e0757a05cfbad25c06f4bfa8f6f1a48af3eab915ef2ebe92"), looks := true }, kinds := [], alts := [], laidByText := true, laidKinds := [.data, .data, .handle], laidTests := true, laidLooks := .later }
def ModelWrittenCardSaid : Prop := Claim7.holds Tryz.pinned (.plain (OpenSpec.ofChange modelWrittenSpec)) modelWrittenCard

/-- THE TIED CARD OF 'deponentlaw20.ModelPlays'. -/
def modelPlaysCard : Claim7 := { stood := { row := modelPlaysRow, standIns := [], harness := (true, "40974f8616441542e0757a05cfbad25c06f4bfa8f6f1a48af3eab915ef2ebe92"), looks := true }, kinds := [], alts := [], laidByText := true, laidKinds := [.data, .data, .handle], laidTests := true, laidLooks := .later }
def ModelPlaysCardSaid : Prop := Claim7.holds Tryz.pinned (.plain (OpenSpec.ofChange modelPlaysSpec)) modelPlaysCard

/-- THE TIED CARD OF 'deponentlaw20.ModelFrom'. -/
def modelFromCard : Claim7 := { stood := { row := modelFromRow, standIns := [], harness := (true, "40974f8616441542e0757a05cfbad25c06f4bfa8f6f1a48af3eab915ef2ebe92"), looks := true }, kinds := [], alts := [], laidByText := true, laidKinds := [.data, .data, .handle], laidTests := true, laidLooks := .later }
def ModelFromCardSaid : Prop := Claim7.holds Tryz.pinned (.plain (OpenSpec.ofChange modelFromSpec)) modelFromCard

/-- THE TIED CARD OF 'deponentlaw20.ModelRefused'. -/
def modelRefusedCard : Claim7 := { stood := { row := modelRefusedRow, standIns := [], harness := (true, "40974f8616441542e0757a05cfbad25c06f4bfa8f6f1a48af3eab915ef2ebe92"), looks := true }, kinds := [], alts := [], laidByText := true, laidKinds := [.data, .data, .handle], laidTests := true, laidLooks := .later }
def ModelRefusedCardSaid : Prop := Claim7.holds Tryz.pinned (.plain (OpenSpec.ofChange modelRefusedSpec)) modelRefusedCard

/-- THE SECOND FORM's CARD OF 'deponentlaw20.ModelAsks'. -/
def modelAsksUptoCard : Claim7 := { stood := { row := modelAsksUptoRow, standIns := [], harness := (true, "40974f8616441542e0757a05cfbad25c06f4bfa8f6f1a48af3eab915ef2ebe92"), looks := true }, kinds := [], alts := [], laidByText := true, laidKinds := [.data, .data, .handle], laidTests := true, laidLooks := .later }
def ModelAsksUptoCardSaid : Prop := Claim7.holds Tryz.pinned (.plain (OpenSpec.upto modelAsksSpec)) modelAsksUptoCard

/-- THE SECOND FORM's CARD OF 'deponentlaw20.ModelTurns'. -/
def modelTurnsUptoCard : Claim7 := { stood := { row := modelTurnsUptoRow, standIns := [], harness := (true, "40974f8616441542e0757a05cfbad25c06f4bfa8f6f1a48af3eab915ef2ebe92"), looks := true }, kinds := [], alts := [], laidByText := true, laidKinds := [.data, .data, .handle], laidTests := true, laidLooks := .later }
def ModelTurnsUptoCardSaid : Prop := Claim7.holds Tryz.pinned (.plain (OpenSpec.upto modelTurnsSpec)) modelTurnsUptoCard

/-- THE SECOND FORM's CARD OF 'deponentlaw20.ModelNumbers'. -/
def modelNumbersUptoCard : Claim7 := { stood := { row := modelNumbersUptoRow, standIns := [], harness := (true, "40974f8616441542e0757a05cfbad25c06f4bfa8f6f1a48af3eab915ef2ebe92"), looks := true }, kinds := [], alts := [], laidByText := true, laidKinds := [.data, .data, .handle], laidTests := true, laidLooks := .later }
def ModelNumbersUptoCardSaid : Prop := Claim7.holds Tryz.pinned (.plain (OpenSpec.upto modelNumbersSpec)) modelNumbersUptoCard

/-- THE SECOND FORM's CARD OF 'deponentlaw20.ModelStays'. -/
def modelStaysUptoCard : Claim7 := { stood := { row := modelStaysUptoRow, standIns := [], harness := (true, "40974f8616441542e0757a05cfbad25c06f4bfa8f6f1a48af3eab915ef2ebe92"), looks := true }, kinds := [], alts := [], laidByText := true, laidKinds := [.data, .data, .handle], laidTests := true, laidLooks := .later }
def ModelStaysUptoCardSaid : Prop := Claim7.holds Tryz.pinned (.plain (OpenSpec.upto modelStaysSpec)) modelStaysUptoCard

/-- THE SECOND FORM's CARD OF 'deponentlaw20.ModelLooks'. -/
def modelLooksUptoCard : Claim7 := { stood := { row := modelLooksUptoRow, standIns := [], harness := (true, "40974f8616441542e0757a05cfbad25c06f4bfa8f6f1a48af3eab915ef2ebe92"), looks := true }, kinds := [], alts := [], laidByText := true, laidKinds := [.data, .data, .handle], laidTests := true, laidLooks := .later }
def ModelLooksUptoCardSaid : Prop := Claim7.holds Tryz.pinned (.plain (OpenSpec.upto modelLooksSpec)) modelLooksUptoCard

/-- THE SECOND FORM's CARD OF 'deponentlaw20.ModelWritten'. -/
def modelWrittenUptoCard : Claim7 := { stood := { row := modelWrittenUptoRow, standIns := [], harness := (true, "40974f8616441542e0757a05cfbad25c06f4bfa8f6f1a48af3eab915ef2ebe92"), looks := true }, kinds := [], alts := [], laidByText := true, laidKinds := [.data, .data, .handle], laidTests := true, laidLooks := .later }
def ModelWrittenUptoCardSaid : Prop := Claim7.holds Tryz.pinned (.plain (OpenSpec.upto modelWrittenSpec)) modelWrittenUptoCard

/-- THE SECOND FORM's CARD OF 'deponentlaw20.ModelPlays'. -/
def modelPlaysUptoCard : Claim7 := { stood := { row := modelPlaysUptoRow, standIns := [], harness := (true, "40974f8616441542e0757a05cfbad25c06f4bfa8f6f1a48af3eab915ef2ebe92"), looks := true }, kinds := [], alts := [], laidByText := true, laidKinds := [.data, .data, .handle], laidTests := true, laidLooks := .later }
def ModelPlaysUptoCardSaid : Prop := Claim7.holds Tryz.pinned (.plain (OpenSpec.upto modelPlaysSpec)) modelPlaysUptoCard

/-- THE SECOND FORM's CARD OF 'deponentlaw20.ModelFrom'. -/
def modelFromUptoCard : Claim7 := { stood := { row := modelFromUptoRow, standIns := [], harness := (true, "40974f8616441542e0757a05cfbad25c06f4bfa8f6f1a48af3eab915ef2ebe92"), looks := true }, kinds := [], alts := [], laidByText := true, laidKinds := [.data, .data, .handle], laidTests := true, laidLooks := .later }
def ModelFromUptoCardSaid : Prop := Claim7.holds Tryz.pinned (.plain (OpenSpec.upto modelFromSpec)) modelFromUptoCard

/-- THE SECOND FORM's CARD OF 'deponentlaw20.ModelRefused'. -/
def modelRefusedUptoCard : Claim7 := { stood := { row := modelRefusedUptoRow, standIns := [], harness := (true, "40974f8616441542e0757a05cfbad25c06f4bfa8f6f1a48af3eab915ef2ebe92"), looks := true }, kinds := [], alts := [], laidByText := true, laidKinds := [.data, .data, .handle], laidTests := true, laidLooks := .later }
def ModelRefusedUptoCardSaid : Prop := Claim7.holds Tryz.pinned (.plain (OpenSpec.upto modelRefusedSpec)) modelRefusedUptoCard
end Rows
end Go.Proofs.YthomgopipiomhaaGreatDoor
