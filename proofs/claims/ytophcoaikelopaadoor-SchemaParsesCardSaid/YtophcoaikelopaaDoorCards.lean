/-
  DERIVED. GIVEN WITH THE SEED: THE CARDS: each row of YtophcoaikelopaaDoorRows.lean that lists a variable, with what it lists TIED to the program's text (the seventh form; the later family's looks); each row that meets fmt, with fmt's text TOLD by the authors' own Lean function (tested against real Go, not proved from fmt's source: count such statements apart). THE CARD IS WHAT COUNTS. Prove the row's statement (the work); the ties are given (YtophcoaikelopaaDoorTie.lean); close each card by the builder's one call (the guide's Derived/Test/ToyasCard.lean, 'card_holds'). Laid BY PROGRAM, IN A SANDBOX (cutbox-door.mjs). By AI agents, Wed Nov 11 2026. No macro, syntax, notation, axiom, sorry.
-/
import Derived.Test.YtophcoaikelopaaDoorRows
import GoSem.ClaimSeven
namespace Go.Proofs.YtophcoaikelopaaDoor
namespace Rows

/-- THE TIED CARD OF 'bedrocklaw39.SchemaFits'. -/
def schemaFitsCard : Claim7 := { stood := { row := schemaFitsRow, standIns := [], harness := (true, "5ab1f30bc0c552fa128d06d44f2b976c786423b4d2aceb27d5f17dd32b2ed2da"), looks := false }, kinds := [], alts := [], laidByText := true, laidKinds := [.data, .pinned], laidTests := true, laidLooks := .later }
def SchemaFitsCardSaid : Prop := Claim7.holds Tryd.pinned (.plain (OpenSpec.ofChange schemaFitsSpec)) schemaFitsCard

/-- THE TIED CARD OF 'bedrocklaw39.SchemaReserved'. -/
def schemaReservedCard : Claim7 := { stood := { row := schemaReservedRow, standIns := [], harness := (true, "5ab1f30bc0c552fa128d06d44f2b976c786423b4d2aceb27d5f17dd32b2ed2da"), looks := false }, kinds := [], alts := [], laidByText := true, laidKinds := [.data, .pinned], laidTests := true, laidLooks := .later }
def SchemaReservedCardSaid : Prop := Claim7.holds Tryd.pinned (.plain (OpenSpec.ofChange schemaReservedSpec)) schemaReservedCard

/-- THE TIED CARD OF 'bedrocklaw39.SchemaValid'. -/
def schemaValidCard : Claim7 := { stood := { row := schemaValidRow, standIns := [], harness := (true, "5ab1f30bc0c552fa128d06d44f2b976c786423b4d2aceb27d5f17dd32b2ed2da"), looks := false }, kinds := [], alts := [], laidByText := true, laidKinds := [.data, .pinned], laidTests := true, laidLooks := .later }
def SchemaValidCardSaid : Prop := Claim7.holds Tryd.pinned (.plain (OpenSpec.ofChange schemaValidSpec)) schemaValidCard

/-- THE TIED CARD OF 'bedrocklaw39.SchemaEncodes'. -/
def schemaEncodesCard : Claim7 := { stood := { row := schemaEncodesRow, standIns := [], harness := (true, "5ab1f30bc0c552fa128d06d44f2b976c786423b4d2aceb27d5f17dd32b2ed2da"), looks := false }, kinds := [], alts := [], laidByText := true, laidKinds := [.data, .pinned], laidTests := true, laidLooks := .later }
def SchemaEncodesCardSaid : Prop := Claim7.holds Tryd.pinned (.plain (OpenSpec.ofChange schemaEncodesSpec)) schemaEncodesCard

/-- THE TIED CARD OF 'bedrocklaw39.SchemaParses'. -/
def schemaParsesCard : Claim7 := { stood := { row := schemaParsesRow, standIns := [], harness := (true, "5ab1f30bc0c552fa128d06d44f2b976c786423b4d2aceb27d5f17dd32b2ed2da"), looks := false }, kinds := [], alts := [], laidByText := true, laidKinds := [.data, .pinned], laidTests := true, laidLooks := .later }
def SchemaParsesCardSaid : Prop := Claim7.holds Tryd.pinned (.plain (OpenSpec.ofChange schemaParsesSpec)) schemaParsesCard

/-- THE TIED CARD OF 'bedrocklaw39.SchemaAdds'. -/
def schemaAddsCard : Claim7 := { stood := { row := schemaAddsRow, standIns := [], harness := (true, "5ab1f30bc0c552fa128d06d44f2b976c786423b4d2aceb27d5f17dd32b2ed2da"), looks := false }, kinds := [], alts := [], laidByText := true, laidKinds := [.data, .pinned], laidTests := true, laidLooks := .later }
def SchemaAddsCardSaid : Prop := Claim7.holds Tryd.pinned (.plain (OpenSpec.ofChange schemaAddsSpec)) schemaAddsCard

/-- THE SECOND FORM's CARD OF 'bedrocklaw39.SchemaFits'. -/
def schemaFitsUptoCard : Claim7 := { stood := { row := schemaFitsUptoRow, standIns := [], harness := (true, "5ab1f30bc0c552fa128d06d44f2b976c786423b4d2aceb27d5f17dd32b2ed2da"), looks := false }, kinds := [], alts := [], laidByText := true, laidKinds := [.data, .pinned], laidTests := true, laidLooks := .later }
def SchemaFitsUptoCardSaid : Prop := Claim7.holds Tryd.pinned (.plain (OpenSpec.upto schemaFitsSpec)) schemaFitsUptoCard

/-- THE SECOND FORM's CARD OF 'bedrocklaw39.SchemaReserved'. -/
def schemaReservedUptoCard : Claim7 := { stood := { row := schemaReservedUptoRow, standIns := [], harness := (true, "5ab1f30bc0c552fa128d06d44f2b976c786423b4d2aceb27d5f17dd32b2ed2da"), looks := false }, kinds := [], alts := [], laidByText := true, laidKinds := [.data, .pinned], laidTests := true, laidLooks := .later }
def SchemaReservedUptoCardSaid : Prop := Claim7.holds Tryd.pinned (.plain (OpenSpec.upto schemaReservedSpec)) schemaReservedUptoCard

/-- THE SECOND FORM's CARD OF 'bedrocklaw39.SchemaValid'. -/
def schemaValidUptoCard : Claim7 := { stood := { row := schemaValidUptoRow, standIns := [], harness := (true, "5ab1f30bc0c552fa128d06d44f2b976c786423b4d2aceb27d5f17dd32b2ed2da"), looks := false }, kinds := [], alts := [], laidByText := true, laidKinds := [.data, .pinned], laidTests := true, laidLooks := .later }
def SchemaValidUptoCardSaid : Prop := Claim7.holds Tryd.pinned (.plain (OpenSpec.upto schemaValidSpec)) schemaValidUptoCard

/-- THE SECOND FORM's CARD OF 'bedrocklaw39.SchemaEncodes'. -/
def schemaEncodesUptoCard : Claim7 := { stood := { row := schemaEncodesUptoRow, standIns := [], harness := (true, "5ab1f30bc0c552fa128d06d44f2b976c786423b4d2aceb27d5f17dd32b2ed2da"), looks := false }, kinds := [], alts := [], laidByText := true, laidKinds := [.data, .pinned], laidTests := true, laidLooks := .later }
def SchemaEncodesUptoCardSaid : Prop := Claim7.holds Tryd.pinned (.plain (OpenSpec.upto schemaEncodesSpec)) schemaEncodesUptoCard

/-- THE SECOND FORM's CARD OF 'bedrocklaw39.SchemaParses'. -/
def schemaParsesUptoCard : Claim7 := { stood := { row := schemaParsesUptoRow, standIns := [], harness := (true, "5ab1f30bc0c552fa128d06d44f2b976c786423b4d2aceb27d5f17dd32b2ed2da"), looks := false }, kinds := [], alts := [], laidByText := true, laidKinds := [.data, .pinned], laidTests := true, laidLooks := .later }
def SchemaParsesUptoCardSaid : Prop := Claim7.holds Tryd.pinned (.plain (OpenSpec.upto schemaParsesSpec)) schemaParsesUptoCard

/-- THE SECOND FORM's CARD OF 'bedrocklaw39.SchemaAdds'. -/
def schemaAddsUptoCard : Claim7 := { stood := { row := schemaAddsUptoRow, standIns := [], harness := (true, "5ab1f30bc0c552fa128d06d44f2b976c786423b4d2aceb27d5f17dd32b2ed2da"), looks := false }, kinds := [], alts := [], laidByText := true, laidKinds := [.data, .pinned], laidTests := true, laidLooks := .later }
def SchemaAddsUptoCardSaid : Prop := Claim7.holds Tryd.pinned (.plain (OpenSpec.upto schemaAddsSpec)) schemaAddsUptoCard
end Rows
end Go.Proofs.YtophcoaikelopaaDoor
