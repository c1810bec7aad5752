/-
  DERIVED. GIVEN WITH THE SEED: THE CARDS: each row of YteondblmcooklaaDoorRows.lean that lists a variable, with what it lists TIED to the program's text (the seventh form; the later family's looks); each row that meets fmt, with fmt's text TOLD by the authors' own Lean function (tested against real Go, not proved from fmt's source: count such statements apart). THE CARD IS WHAT COUNTS. Prove the row's statement (the work); the ties are given (YteondblmcooklaaDoorTie.lean); close each card by the builder's one call (the guide's Derived/Test/ToyasCard.lean, 'card_holds'). Laid BY PROGRAM, IN A SANDBOX (cutbox-door.mjs). By AI agents, Wed Nov 11 2026. No macro, syntax, notation, axiom, sorry.
-/
import Derived.Test.YteondblmcooklaaDoorRows
import GoSem.ClaimSeven
namespace Go.Proofs.YteondblmcooklaaDoor
namespace Rows

/-- THE TIED CARD OF 'pinballlaw08.SourceParses'. -/
def sourceParsesCard : Claim7 := { stood := { row := sourceParsesRow, standIns := [], harness := (true, "c70712dffe06b80e226e0e4d57a66003119977709b394bf1793fe88ee1ecd78d"), looks := true }, kinds := [], alts := [], laidByText := true, laidKinds := [.data, .data, .data, .listed, .data], laidTests := true, laidLooks := .later }
def SourceParsesCardSaid : Prop := Claim7.holds Tryd.pinned (.plain (OpenSpec.ofChange sourceParsesSpec)) sourceParsesCard

/-- THE TIED CARD OF 'pinballlaw08.SourceArities'. -/
def sourceAritiesCard : Claim7 := { stood := { row := sourceAritiesRow, standIns := [], harness := (true, "c70712dffe06b80e226e0e4d57a66003119977709b394bf1793fe88ee1ecd78d"), looks := true }, kinds := [], alts := [], laidByText := true, laidKinds := [.data, .data, .data, .listed, .data], laidTests := true, laidLooks := .later }
def SourceAritiesCardSaid : Prop := Claim7.holds Tryd.pinned (.plain (OpenSpec.ofChange sourceAritiesSpec)) sourceAritiesCard

/-- THE TIED CARD OF 'pinballlaw08.SourceFormats'. -/
def sourceFormatsCard : Claim7 := { stood := { row := sourceFormatsRow, standIns := [], harness := (true, "c70712dffe06b80e226e0e4d57a66003119977709b394bf1793fe88ee1ecd78d"), looks := true }, kinds := [], alts := [], laidByText := true, laidKinds := [.data, .data, .data, .listed, .data], laidTests := true, laidLooks := .later }
def SourceFormatsCardSaid : Prop := Claim7.holds Tryd.pinned (.plain (OpenSpec.ofChange sourceFormatsSpec)) sourceFormatsCard

/-- THE TIED CARD OF 'pinballlaw08.SourceAgain'. -/
def sourceAgainCard : Claim7 := { stood := { row := sourceAgainRow, standIns := [], harness := (true, "c70712dffe06b80e226e0e4d57a66003119977709b394bf1793fe88ee1ecd78d"), looks := true }, kinds := [], alts := [], laidByText := true, laidKinds := [.data, .data, .data, .listed, .data], laidTests := true, laidLooks := .later }
def SourceAgainCardSaid : Prop := Claim7.holds Tryd.pinned (.plain (OpenSpec.ofChange sourceAgainSpec)) sourceAgainCard

/-- THE TIED CARD OF 'pinballlaw08.SourceMany'. -/
def sourceManyCard : Claim7 := { stood := { row := sourceManyRow, standIns := [], harness := (true, "c70712dffe06b80e226e0e4d57a66003119977709b394bf1793fe88ee1ecd78d"), looks := true }, kinds := [], alts := [], laidByText := true, laidKinds := [.data, .data, .data, .listed, .data], laidTests := true, laidLooks := .later }
def SourceManyCardSaid : Prop := Claim7.holds Tryd.pinned (.plain (OpenSpec.ofChange sourceManySpec)) sourceManyCard

/-- THE SECOND FORM's CARD OF 'pinballlaw08.SourceParses'. -/
def sourceParsesUptoCard : Claim7 := { stood := { row := sourceParsesUptoRow, standIns := [], harness := (true, "c70712dffe06b80e226e0e4d57a66003119977709b394bf1793fe88ee1ecd78d"), looks := true }, kinds := [], alts := [], laidByText := true, laidKinds := [.data, .data, .data, .listed, .data], laidTests := true, laidLooks := .later }
def SourceParsesUptoCardSaid : Prop := Claim7.holds Tryd.pinned (.plain (OpenSpec.upto sourceParsesSpec)) sourceParsesUptoCard

/-- THE SECOND FORM's CARD OF 'pinballlaw08.SourceArities'. -/
def sourceAritiesUptoCard : Claim7 := { stood := { row := sourceAritiesUptoRow, standIns := [], harness := (true, "c70712dffe06b80e226e0e4d57a66003119977709b394bf1793fe88ee1ecd78d"), looks := true }, kinds := [], alts := [], laidByText := true, laidKinds := [.data, .data, .data, .listed, .data], laidTests := true, laidLooks := .later }
def SourceAritiesUptoCardSaid : Prop := Claim7.holds Tryd.pinned (.plain (OpenSpec.upto sourceAritiesSpec)) sourceAritiesUptoCard

/-- THE SECOND FORM's CARD OF 'pinballlaw08.SourceFormats'. -/
def sourceFormatsUptoCard : Claim7 := { stood := { row := sourceFormatsUptoRow, standIns := [], harness := (true, "c70712dffe06b80e226e0e4d57a66003119977709b394bf1793fe88ee1ecd78d"), looks := true }, kinds := [], alts := [], laidByText := true, laidKinds := [.data, .data, .data, .listed, .data], laidTests := true, laidLooks := .later }
def SourceFormatsUptoCardSaid : Prop := Claim7.holds Tryd.pinned (.plain (OpenSpec.upto sourceFormatsSpec)) sourceFormatsUptoCard

/-- THE SECOND FORM's CARD OF 'pinballlaw08.SourceAgain'. -/
def sourceAgainUptoCard : Claim7 := { stood := { row := sourceAgainUptoRow, standIns := [], harness := (true, "c70712dffe06b80e226e0e4d57a66003119977709b394bf1793fe88ee1ecd78d"), looks := true }, kinds := [], alts := [], laidByText := true, laidKinds := [.data, .data, .data, .listed, .data], laidTests := true, laidLooks := .later }
def SourceAgainUptoCardSaid : Prop := Claim7.holds Tryd.pinned (.plain (OpenSpec.upto sourceAgainSpec)) sourceAgainUptoCard

/-- THE SECOND FORM's CARD OF 'pinballlaw08.SourceMany'. -/
def sourceManyUptoCard : Claim7 := { stood := { row := sourceManyUptoRow, standIns := [], harness := (true, "c70712dffe06b80e226e0e4d57a66003119977709b394bf1793fe88ee1ecd78d"), looks := true }, kinds := [], alts := [], laidByText := true, laidKinds := [.data, .data, .data, .listed, .data], laidTests := true, laidLooks := .later }
def SourceManyUptoCardSaid : Prop := Claim7.holds Tryd.pinned (.plain (OpenSpec.upto sourceManySpec)) sourceManyUptoCard
end Rows
end Go.Proofs.YteondblmcooklaaDoor
