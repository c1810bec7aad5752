/-
  DERIVED. GIVEN WITH THE SEED: THE CARDS: each row of YtbpcjpiaimdpnaaGreatDoorRows.lean that lists a variable, with what it lists TIED to the program's text (the seventh form; the later family's looks); each row that meets fmt, with fmt's text TOLD by the authors' own Lean function (tested against real Go, not proved from fmt's source: count such statements apart). THE CARD IS WHAT COUNTS. Prove the row's statement (the work); the ties are given (YtbpcjpiaimdpnaaGreatDoorTie.lean); close each card by the builder's one call (the guide's Derived/Test/ToyasCard.lean, 'card_holds'). Laid BY PROGRAM, IN A SANDBOX (cutbox-door.mjs). By AI agents, Wed Nov 11 2026. No macro, syntax, notation, axiom, sorry.
-/
import Derived.Test.YtbpcjpiaimdpnaaGreatDoorRows
import GoSem.ClaimSeven
namespace Go.Proofs.YtbpcjpiaimdpnaaGreatDoor
namespace Rows

/-- THE TIED CARD OF 'pinballlaw09.LayoutChecks'. -/
def layoutChecksCard : Claim7 := { stood := { row := layoutChecksRow, standIns := [], harness := (true, "4ffa0a240c363f7bc4c1e5ce10cebaf26484fe1eb9c5358c8204ed8c115b2db5"), looks := true }, kinds := [], alts := [], laidByText := true, laidKinds := [.data, .data, .data, .listed, .data], laidTests := true, laidLooks := .later }
def LayoutChecksCardSaid : Prop := Claim7.holds Tryz.pinned (.plain (OpenSpec.ofChange layoutChecksSpec)) layoutChecksCard

/-- THE TIED CARD OF 'pinballlaw09.LayoutCompiles'. -/
def layoutCompilesCard : Claim7 := { stood := { row := layoutCompilesRow, standIns := [], harness := (true, "4ffa0a240c363f7bc4c1e5ce10cebaf26484fe1eb9c5358c8204ed8c115b2db5"), looks := true }, kinds := [], alts := [], laidByText := true, laidKinds := [.data, .data, .data, .listed, .data], laidTests := true, laidLooks := .later }
def LayoutCompilesCardSaid : Prop := Claim7.holds Tryz.pinned (.plain (OpenSpec.ofChange layoutCompilesSpec)) layoutCompilesCard

/-- THE TIED CARD OF 'pinballlaw09.LayoutTexts'. -/
def layoutTextsCard : Claim7 := { stood := { row := layoutTextsRow, standIns := [], harness := (true, "4ffa0a240c363f7bc4c1e5ce10cebaf26484fe1eb9c5358c8204ed8c115b2db5"), looks := true }, kinds := [], alts := [], laidByText := true, laidKinds := [.data, .data, .data, .listed, .data], laidTests := true, laidLooks := .later }
def LayoutTextsCardSaid : Prop := Claim7.holds Tryz.pinned (.plain (OpenSpec.ofChange layoutTextsSpec)) layoutTextsCard

/-- THE TIED CARD OF 'pinballlaw09.LayoutAgain'. -/
def layoutAgainCard : Claim7 := { stood := { row := layoutAgainRow, standIns := [], harness := (true, "4ffa0a240c363f7bc4c1e5ce10cebaf26484fe1eb9c5358c8204ed8c115b2db5"), looks := true }, kinds := [], alts := [], laidByText := true, laidKinds := [.data, .data, .data, .listed, .data], laidTests := true, laidLooks := .later }
def LayoutAgainCardSaid : Prop := Claim7.holds Tryz.pinned (.plain (OpenSpec.ofChange layoutAgainSpec)) layoutAgainCard

/-- THE TIED CARD OF 'pinballlaw09.LayoutLimits'. -/
def layoutLimitsCard : Claim7 := { stood := { row := layoutLimitsRow, standIns := [], harness := (true, "4ffa0a240c363f7bc4c1e5ce10cebaf26484fe1eb9c5358c8204ed8c115b2db5"), looks := true }, kinds := [], alts := [], laidByText := true, laidKinds := [.data, .data, .data, .listed, .data], laidTests := true, laidLooks := .later }
def LayoutLimitsCardSaid : Prop := Claim7.holds Tryz.pinned (.plain (OpenSpec.ofChange layoutLimitsSpec)) layoutLimitsCard

/-- THE TIED CARD OF 'pinballlaw09.LayoutMoves'. -/
def layoutMovesCard : Claim7 := { stood := { row := layoutMovesRow, standIns := [], harness := (true, "4ffa0a240c363f7bc4c1e5ce10cebaf26484fe1eb9c5358c8204ed8c115b2db5"), looks := true }, kinds := [], alts := [], laidByText := true, laidKinds := [.data, .data, .data, .listed, .data], laidTests := true, laidLooks := .later }
def LayoutMovesCardSaid : Prop := Claim7.holds Tryz.pinned (.plain (OpenSpec.ofChange layoutMovesSpec)) layoutMovesCard

/-- THE SECOND FORM's CARD OF 'pinballlaw09.LayoutChecks'. -/
def layoutChecksUptoCard : Claim7 := { stood := { row := layoutChecksUptoRow, standIns := [], harness := (true, "4ffa0a240c363f7bc4c1e5ce10cebaf26484fe1eb9c5358c8204ed8c115b2db5"), looks := true }, kinds := [], alts := [], laidByText := true, laidKinds := [.data, .data, .data, .listed, .data], laidTests := true, laidLooks := .later }
def LayoutChecksUptoCardSaid : Prop := Claim7.holds Tryz.pinned (.plain (OpenSpec.upto layoutChecksSpec)) layoutChecksUptoCard

/-- THE SECOND FORM's CARD OF 'pinballlaw09.LayoutCompiles'. -/
def layoutCompilesUptoCard : Claim7 := { stood := { row := layoutCompilesUptoRow, standIns := [], harness := (true, "4ffa0a240c363f7bc4c1e5ce10cebaf26484fe1eb9c5358c8204ed8c115b2db5"), looks := true }, kinds := [], alts := [], laidByText := true, laidKinds := [.data, .data, .data, .listed, .data], laidTests := true, laidLooks := .later }
def LayoutCompilesUptoCardSaid : Prop := Claim7.holds Tryz.pinned (.plain (OpenSpec.upto layoutCompilesSpec)) layoutCompilesUptoCard

/-- THE SECOND FORM's CARD OF 'pinballlaw09.LayoutTexts'. -/
def layoutTextsUptoCard : Claim7 := { stood := { row := layoutTextsUptoRow, standIns := [], harness := (true, "4ffa0a240c363f7bc4c1e5ce10cebaf26484fe1eb9c5358c8204ed8c115b2db5"), looks := true }, kinds := [], alts := [], laidByText := true, laidKinds := [.data, .data, .data, .listed, .data], laidTests := true, laidLooks := .later }
def LayoutTextsUptoCardSaid : Prop := Claim7.holds Tryz.pinned (.plain (OpenSpec.upto layoutTextsSpec)) layoutTextsUptoCard

/-- THE SECOND FORM's CARD OF 'pinballlaw09.LayoutAgain'. -/
def layoutAgainUptoCard : Claim7 := { stood := { row := layoutAgainUptoRow, standIns := [], harness := (true, "4ffa0a240c363f7bc4c1e5ce10cebaf26484fe1eb9c5358c8204ed8c115b2db5"), looks := true }, kinds := [], alts := [], laidByText := true, laidKinds := [.data, .data, .data, .listed, .data], laidTests := true, laidLooks := .later }
def LayoutAgainUptoCardSaid : Prop := Claim7.holds Tryz.pinned (.plain (OpenSpec.upto layoutAgainSpec)) layoutAgainUptoCard

/-- THE SECOND FORM's CARD OF 'pinballlaw09.LayoutLimits'. -/
def layoutLimitsUptoCard : Claim7 := { stood := { row := layoutLimitsUptoRow, standIns := [], harness := (true, "4ffa0a240c363f7bc4c1e5ce10cebaf26484fe1eb9c5358c8204ed8c115b2db5"), looks := true }, kinds := [], alts := [], laidByText := true, laidKinds := [.data, .data, .data, .listed, .data], laidTests := true, laidLooks := .later }
def LayoutLimitsUptoCardSaid : Prop := Claim7.holds Tryz.pinned (.plain (OpenSpec.upto layoutLimitsSpec)) layoutLimitsUptoCard

/-- THE SECOND FORM's CARD OF 'pinballlaw09.LayoutMoves'. -/
def layoutMovesUptoCard : Claim7 := { stood := { row := layoutMovesUptoRow, standIns := [], harness := (true, "4ffa0a240c363f7bc4c1e5ce10cebaf26484fe1eb9c5358c8204ed8c115b2db5"), looks := true }, kinds := [], alts := [], laidByText := true, laidKinds := [.data, .data, .data, .listed, .data], laidTests := true, laidLooks := .later }
def LayoutMovesUptoCardSaid : Prop := Claim7.holds Tryz.pinned (.plain (OpenSpec.upto layoutMovesSpec)) layoutMovesUptoCard
end Rows
end Go.Proofs.YtbpcjpiaimdpnaaGreatDoor
