/-
  DERIVED. GIVEN WITH THE SEED: THE CARDS: each row of YtamhggndcegndaaDoorRows.lean that lists a variable, with what it lists TIED to the program's text (the seventh form; the later family's looks); each row that meets fmt, with fmt's text TOLD by the authors' own Lean function (tested against real Go, not proved from fmt's source: count such statements apart). THE CARD IS WHAT COUNTS. Prove the row's statement (the work); the ties are given (YtamhggndcegndaaDoorTie.lean); close each card by the builder's one call (the guide's Derived/Test/ToyasCard.lean, 'card_holds'). Laid BY PROGRAM, IN A SANDBOX (cutbox-door.mjs). By AI agents, Wed Nov 11 2026. No macro, syntax, notation, axiom, sorry.
-/
import Derived.Test.YtamhggndcegndaaDoorRows
import GoSem.ClaimSeven
namespace Go.Proofs.YtamhggndcegndaaDoor
namespace Rows

/-- THE TIED CARD OF 'deponentlaw12.TokenNarrows'. -/
def tokenNarrowsCard : Claim7 := { stood := { row := tokenNarrowsRow, standIns := [], harness := (true, "39b5126d4030c6f8ac01d12a6d9c5a1d8fd8d3b43ccff7a02cce09b379375df8"), looks := true }, kinds := [], alts := [], laidByText := true, laidKinds := [.data, .data], laidTests := true, laidLooks := .later }
def TokenNarrowsCardSaid : Prop := Claim7.holds Tryd.pinned (.plain (OpenSpec.ofChange tokenNarrowsSpec)) tokenNarrowsCard

/-- THE TIED CARD OF 'deponentlaw12.TokenOrders'. -/
def tokenOrdersCard : Claim7 := { stood := { row := tokenOrdersRow, standIns := [], harness := (true, "39b5126d4030c6f8ac01d12a6d9c5a1d8fd8d3b43ccff7a02cce09b379375df8"), looks := true }, kinds := [], alts := [], laidByText := true, laidKinds := [.data, .data], laidTests := true, laidLooks := .later }
def TokenOrdersCardSaid : Prop := Claim7.holds Tryd.pinned (.plain (OpenSpec.ofChange tokenOrdersSpec)) tokenOrdersCard

/-- THE TIED CARD OF 'deponentlaw12.TokenMints'. -/
def tokenMintsCard : Claim7 := { stood := { row := tokenMintsRow, standIns := [], harness := (true, "39b5126d4030c6f8ac01d12a6d9c5a1d8fd8d3b43ccff7a02cce09b379375df8"), looks := true }, kinds := [], alts := [], laidByText := true, laidKinds := [.data, .data], laidTests := true, laidLooks := .later }
def TokenMintsCardSaid : Prop := Claim7.holds Tryd.pinned (.plain (OpenSpec.ofChange tokenMintsSpec)) tokenMintsCard

/-- THE TIED CARD OF 'deponentlaw12.TokenKept'. -/
def tokenKeptCard : Claim7 := { stood := { row := tokenKeptRow, standIns := [], harness := (true, "39b5126d4030c6f8ac01d12a6d9c5a1d8fd8d3b43ccff7a02cce09b379375df8"), looks := true }, kinds := [], alts := [], laidByText := true, laidKinds := [.data, .data, .handle], laidTests := true, laidLooks := .later }
def TokenKeptCardSaid : Prop := Claim7.holds Tryd.pinned (.plain (OpenSpec.ofChange tokenKeptSpec)) tokenKeptCard

/-- THE TIED CARD OF 'deponentlaw12.TokenCodes'. -/
def tokenCodesCard : Claim7 := { stood := { row := tokenCodesRow, standIns := [], harness := (true, "39b5126d4030c6f8ac01d12a6d9c5a1d8fd8d3b43ccff7a02cce09b379375df8"), looks := true }, kinds := [], alts := [], laidByText := true, laidKinds := [.data, .data, .handle], laidTests := true, laidLooks := .later }
def TokenCodesCardSaid : Prop := Claim7.holds Tryd.pinned (.plain (OpenSpec.ofChange tokenCodesSpec)) tokenCodesCard

/-- THE TIED CARD OF 'deponentlaw12.TokenNumbers'. -/
def tokenNumbersCard : Claim7 := { stood := { row := tokenNumbersRow, standIns := [], harness := (true, "39b5126d4030c6f8ac01d12a6d9c5a1d8fd8d3b43ccff7a02cce09b379375df8"), looks := true }, kinds := [], alts := [], laidByText := true, laidKinds := [.data, .data, .handle], laidTests := true, laidLooks := .later }
def TokenNumbersCardSaid : Prop := Claim7.holds Tryd.pinned (.plain (OpenSpec.ofChange tokenNumbersSpec)) tokenNumbersCard

/-- THE SECOND FORM's CARD OF 'deponentlaw12.TokenNarrows'. -/
def tokenNarrowsUptoCard : Claim7 := { stood := { row := tokenNarrowsUptoRow, standIns := [], harness := (true, "39b5126d4030c6f8ac01d12a6d9c5a1d8fd8d3b43ccff7a02cce09b379375df8"), looks := true }, kinds := [], alts := [], laidByText := true, laidKinds := [.data, .data], laidTests := true, laidLooks := .later }
def TokenNarrowsUptoCardSaid : Prop := Claim7.holds Tryd.pinned (.plain (OpenSpec.upto tokenNarrowsSpec)) tokenNarrowsUptoCard

/-- THE SECOND FORM's CARD OF 'deponentlaw12.TokenOrders'. -/
def tokenOrdersUptoCard : Claim7 := { stood := { row := tokenOrdersUptoRow, standIns := [], harness := (true, "39b5126d4030c6f8ac01d12a6d9c5a1d8fd8d3b43ccff7a02cce09b379375df8"), looks := true }, kinds := [], alts := [], laidByText := true, laidKinds := [.data, .data], laidTests := true, laidLooks := .later }
def TokenOrdersUptoCardSaid : Prop := Claim7.holds Tryd.pinned (.plain (OpenSpec.upto tokenOrdersSpec)) tokenOrdersUptoCard

/-- THE SECOND FORM's CARD OF 'deponentlaw12.TokenMints'. -/
def tokenMintsUptoCard : Claim7 := { stood := { row := tokenMintsUptoRow, standIns := [], harness := (true, "39b5126d4030c6f8ac01d12a6d9c5a1d8fd8d3b43ccff7a02cce09b379375df8"), looks := true }, kinds := [], alts := [], laidByText := true, laidKinds := [.data, .data], laidTests := true, laidLooks := .later }
def TokenMintsUptoCardSaid : Prop := Claim7.holds Tryd.pinned (.plain (OpenSpec.upto tokenMintsSpec)) tokenMintsUptoCard

/-- THE SECOND FORM's CARD OF 'deponentlaw12.TokenKept'. -/
def tokenKeptUptoCard : Claim7 := { stood := { row := tokenKeptUptoRow, standIns := [], harness := (true, "39b5126d4030c6f8ac01d12a6d9c5a1d8fd8d3b43ccff7a02cce09b379375df8"), looks := true }, kinds := [], alts := [], laidByText := true, laidKinds := [.data, .data, .handle], laidTests := true, laidLooks := .later }
def TokenKeptUptoCardSaid : Prop := Claim7.holds Tryd.pinned (.plain (OpenSpec.upto tokenKeptSpec)) tokenKeptUptoCard

/-- THE SECOND FORM's CARD OF 'deponentlaw12.TokenCodes'. -/
def tokenCodesUptoCard : Claim7 := { stood := { row := tokenCodesUptoRow, standIns := [], harness := (true, "39b5126d4030c6f8ac01d12a6d9c5a1d8fd8d3b43ccff7a02cce09b379375df8"), looks := true }, kinds := [], alts := [], laidByText := true, laidKinds := [.data, .data, .handle], laidTests := true, laidLooks := .later }
def TokenCodesUptoCardSaid : Prop := Claim7.holds Tryd.pinned (.plain (OpenSpec.upto tokenCodesSpec)) tokenCodesUptoCard

/-- THE SECOND FORM's CARD OF 'deponentlaw12.TokenNumbers'. -/
def tokenNumbersUptoCard : Claim7 := { stood := { row := tokenNumbersUptoRow, standIns := [], harness := (true, "39b5126d4030c6f8ac01d12a6d9c5a1d8fd8d3b43ccff7a02cce09b379375df8"), looks := true }, kinds := [], alts := [], laidByText := true, laidKinds := [.data, .data, .handle], laidTests := true, laidLooks := .later }
def TokenNumbersUptoCardSaid : Prop := Claim7.holds Tryd.pinned (.plain (OpenSpec.upto tokenNumbersSpec)) tokenNumbersUptoCard
end Rows
end Go.Proofs.YtamhggndcegndaaDoor
