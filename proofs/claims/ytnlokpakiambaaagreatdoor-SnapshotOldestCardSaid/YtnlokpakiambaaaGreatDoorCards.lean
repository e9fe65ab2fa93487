/-
  DERIVED. GIVEN WITH THE SEED: THE CARDS: each row of YtnlokpakiambaaaGreatDoorRows.lean that lists a variable, with what it lists TIED to the program's text (the seventh form; the later family's looks); each row that meets fmt, with fmt's text TOLD by the authors' own Lean function (tested against real Go, not proved from fmt's source: count such statements apart). THE CARD IS WHAT COUNTS. Prove the row's statement (the work); the ties are given (YtnlokpakiambaaaGreatDoorTie.lean); close each card by the builder's one call (the guide's Derived/Test/ToyasCard.lean, 'card_holds'). Laid BY PROGRAM, IN A SANDBOX (cutbox-door.mjs). By AI agents, Wed Nov 11 2026. No macro, syntax, notation, axiom, sorry.
-/
import Derived.Test.YtnlokpakiambaaaGreatDoorRows
import GoSem.ClaimSeven
namespace Go.Proofs.YtnlokpakiambaaaGreatDoor
namespace Rows

/-- THE TIED CARD OF 'bedrocklaw37.VersionAt'. -/
def versionAtCard : Claim7 := { stood := { row := versionAtRow, standIns := [], harness := (true, "b6d7f4a206eb1f8691e120a56f988a36fb2da52285044b759e2bf8cca4630af1"), looks := false }, kinds := [], alts := [], laidByText := true, laidKinds := [.data, .data], laidTests := true, laidLooks := .later }
def VersionAtCardSaid : Prop := Claim7.holds Tryz.pinned (.plain (OpenSpec.ofChange versionAtSpec)) versionAtCard

/-- THE TIED CARD OF 'bedrocklaw37.VersionBlocks'. -/
def versionBlocksCard : Claim7 := { stood := { row := versionBlocksRow, standIns := [], harness := (true, "b6d7f4a206eb1f8691e120a56f988a36fb2da52285044b759e2bf8cca4630af1"), looks := false }, kinds := [], alts := [], laidByText := true, laidKinds := [.data, .data], laidTests := true, laidLooks := .later }
def VersionBlocksCardSaid : Prop := Claim7.holds Tryz.pinned (.plain (OpenSpec.ofChange versionBlocksSpec)) versionBlocksCard

/-- THE TIED CARD OF 'bedrocklaw37.VersionSpoilt'. -/
def versionSpoiltCard : Claim7 := { stood := { row := versionSpoiltRow, standIns := [], harness := (true, "b6d7f4a206eb1f8691e120a56f988a36fb2da52285044b759e2bf8cca4630af1"), looks := false }, kinds := [], alts := [], laidByText := true, laidKinds := [.data, .data], laidTests := true, laidLooks := .later }
def VersionSpoiltCardSaid : Prop := Claim7.holds Tryz.pinned (.plain (OpenSpec.ofChange versionSpoiltSpec)) versionSpoiltCard

/-- THE TIED CARD OF 'bedrocklaw37.VersionRefuses'. -/
def versionRefusesCard : Claim7 := { stood := { row := versionRefusesRow, standIns := [], harness := (true, "b6d7f4a206eb1f8691e120a56f988a36fb2da52285044b759e2bf8cca4630af1"), looks := false }, kinds := [], alts := [], laidByText := true, laidKinds := [.data, .data], laidTests := true, laidLooks := .later }
def VersionRefusesCardSaid : Prop := Claim7.holds Tryz.pinned (.plain (OpenSpec.ofChange versionRefusesSpec)) versionRefusesCard

/-- THE TIED CARD OF 'bedrocklaw38.SnapshotTop'. -/
def snapshotTopCard : Claim7 := { stood := { row := snapshotTopRow, standIns := [], harness := (true, "b6d7f4a206eb1f8691e120a56f988a36fb2da52285044b759e2bf8cca4630af1"), looks := false }, kinds := [], alts := [], laidByText := true, laidKinds := [.data, .data], laidTests := true, laidLooks := .later }
def SnapshotTopCardSaid : Prop := Claim7.holds Tryz.pinned (.plain (OpenSpec.ofChange snapshotTopSpec)) snapshotTopCard

/-- THE TIED CARD OF 'bedrocklaw38.SnapshotOldest'. -/
def snapshotOldestCard : Claim7 := { stood := { row := snapshotOldestRow, standIns := [], harness := (true, "b6d7f4a206eb1f8691e120a56f988a36fb2da52285044b759e2bf8cca4630af1"), looks := false }, kinds := [], alts := [], laidByText := true, laidKinds := [.data, .data], laidTests := true, laidLooks := .later }
def SnapshotOldestCardSaid : Prop := Claim7.holds Tryz.pinned (.plain (OpenSpec.ofChange snapshotOldestSpec)) snapshotOldestCard

/-- THE TIED CARD OF 'bedrocklaw38.SnapshotSpoilt'. -/
def snapshotSpoiltCard : Claim7 := { stood := { row := snapshotSpoiltRow, standIns := [], harness := (true, "b6d7f4a206eb1f8691e120a56f988a36fb2da52285044b759e2bf8cca4630af1"), looks := false }, kinds := [], alts := [], laidByText := true, laidKinds := [.data, .data], laidTests := true, laidLooks := .later }
def SnapshotSpoiltCardSaid : Prop := Claim7.holds Tryz.pinned (.plain (OpenSpec.ofChange snapshotSpoiltSpec)) snapshotSpoiltCard

/-- THE TIED CARD OF 'bedrocklaw38.SnapshotRefuses'. -/
def snapshotRefusesCard : Claim7 := { stood := { row := snapshotRefusesRow, standIns := [], harness := (true, "b6d7f4a206eb1f8691e120a56f988a36fb2da52285044b759e2bf8cca4630af1"), looks := false }, kinds := [], alts := [], laidByText := true, laidKinds := [.data, .data], laidTests := true, laidLooks := .later }
def SnapshotRefusesCardSaid : Prop := Claim7.holds Tryz.pinned (.plain (OpenSpec.ofChange snapshotRefusesSpec)) snapshotRefusesCard

/-- THE SECOND FORM's CARD OF 'bedrocklaw37.VersionAt'. -/
def versionAtUptoCard : Claim7 := { stood := { row := versionAtUptoRow, standIns := [], harness := (true, "b6d7f4a206eb1f8691e120a56f988a36fb2da52285044b759e2bf8cca4630af1"), looks := false }, kinds := [], alts := [], laidByText := true, laidKinds := [.data, .data], laidTests := true, laidLooks := .later }
def VersionAtUptoCardSaid : Prop := Claim7.holds Tryz.pinned (.plain (OpenSpec.upto versionAtSpec)) versionAtUptoCard

/-- THE SECOND FORM's CARD OF 'bedrocklaw37.VersionBlocks'. -/
def versionBlocksUptoCard : Claim7 := { stood := { row := versionBlocksUptoRow, standIns := [], harness := (true, "b6d7f4a206eb1f8691e120a56f988a36fb2da52285044b759e2bf8cca4630af1"), looks := false }, kinds := [], alts := [], laidByText := true, laidKinds := [.data, .data], laidTests := true, laidLooks := .later }
def VersionBlocksUptoCardSaid : Prop := Claim7.holds Tryz.pinned (.plain (OpenSpec.upto versionBlocksSpec)) versionBlocksUptoCard

/-- THE SECOND FORM's CARD OF 'bedrocklaw37.VersionSpoilt'. -/
def versionSpoiltUptoCard : Claim7 := { stood := { row := versionSpoiltUptoRow, standIns := [], harness := (true, "b6d7f4a206eb1f8691e120a56f988a36fb2da52285044b759e2bf8cca4630af1"), looks := false }, kinds := [], alts := [], laidByText := true, laidKinds := [.data, .data], laidTests := true, laidLooks := .later }
def VersionSpoiltUptoCardSaid : Prop := Claim7.holds Tryz.pinned (.plain (OpenSpec.upto versionSpoiltSpec)) versionSpoiltUptoCard

/-- THE SECOND FORM's CARD OF 'bedrocklaw37.VersionRefuses'. -/
def versionRefusesUptoCard : Claim7 := { stood := { row := versionRefusesUptoRow, standIns := [], harness := (true, "b6d7f4a206eb1f8691e120a56f988a36fb2da52285044b759e2bf8cca4630af1"), looks := false }, kinds := [], alts := [], laidByText := true, laidKinds := [.data, .data], laidTests := true, laidLooks := .later }
def VersionRefusesUptoCardSaid : Prop := Claim7.holds Tryz.pinned (.plain (OpenSpec.upto versionRefusesSpec)) versionRefusesUptoCard

/-- THE SECOND FORM's CARD OF 'bedrocklaw38.SnapshotTop'. -/
def snapshotTopUptoCard : Claim7 := { stood := { row := snapshotTopUptoRow, standIns := [], harness := (true, "b6d7f4a206eb1f8691e120a56f988a36fb2da52285044b759e2bf8cca4630af1"), looks := false }, kinds := [], alts := [], laidByText := true, laidKinds := [.data, .data], laidTests := true, laidLooks := .later }
def SnapshotTopUptoCardSaid : Prop := Claim7.holds Tryz.pinned (.plain (OpenSpec.upto snapshotTopSpec)) snapshotTopUptoCard

/-- THE SECOND FORM's CARD OF 'bedrocklaw38.SnapshotOldest'. -/
def snapshotOldestUptoCard : Claim7 := { stood := { row := snapshotOldestUptoRow, standIns := [], harness := (true, "b6d7f4a206eb1f8691e120a56f988a36fb2da52285044b759e2bf8cca4630af1"), looks := false }, kinds := [], alts := [], laidByText := true, laidKinds := [.data, .data], laidTests := true, laidLooks := .later }
def SnapshotOldestUptoCardSaid : Prop := Claim7.holds Tryz.pinned (.plain (OpenSpec.upto snapshotOldestSpec)) snapshotOldestUptoCard

/-- THE SECOND FORM's CARD OF 'bedrocklaw38.SnapshotSpoilt'. -/
def snapshotSpoiltUptoCard : Claim7 := { stood := { row := snapshotSpoiltUptoRow, standIns := [], harness := (true, "b6d7f4a206eb1f8691e120a56f988a36fb2da52285044b759e2bf8cca4630af1"), looks := false }, kinds := [], alts := [], laidByText := true, laidKinds := [.data, .data], laidTests := true, laidLooks := .later }
def SnapshotSpoiltUptoCardSaid : Prop := Claim7.holds Tryz.pinned (.plain (OpenSpec.upto snapshotSpoiltSpec)) snapshotSpoiltUptoCard

/-- THE SECOND FORM's CARD OF 'bedrocklaw38.SnapshotRefuses'. -/
def snapshotRefusesUptoCard : Claim7 := { stood := { row := snapshotRefusesUptoRow, standIns := [], harness := (true, "b6d7f4a206eb1f8691e120a56f988a36fb2da52285044b759e2bf8cca4630af1"), looks := false }, kinds := [], alts := [], laidByText := true, laidKinds := [.data, .data], laidTests := true, laidLooks := .later }
def SnapshotRefusesUptoCardSaid : Prop := Claim7.holds Tryz.pinned (.plain (OpenSpec.upto snapshotRefusesSpec)) snapshotRefusesUptoCard
end Rows
end Go.Proofs.YtnlokpakiambaaaGreatDoor
