/-
  DERIVED. GIVEN WITH THE SEED: THE CARDS: each row of YtfkjjoglnmeciaaGreatDoorRows.lean that lists a variable, with what it lists TIED to the program's text (the seventh form; the later family's looks); each row that meets fmt, with fmt's text TOLD by the authors' own Lean function (tested against real Go, not proved from fmt's source: count such statements apart). THE CARD IS WHAT COUNTS. Prove the row's statement (the work); the ties are given (YtfkjjoglnmeciaaGreatDoorTie.lean); close each card by the builder's one call (the guide's Derived/Test/ToyasCard.lean, 'card_holds'). Laid BY PROGRAM, IN A SANDBOX (cutbox-door.mjs). By AI agents, Wed Nov 11 2026. No macro, syntax, notation, axiom, sorry.
-/
import Derived.Test.YtfkjjoglnmeciaaGreatDoorRows
import GoSem.ClaimSeven
namespace Go.Proofs.YtfkjjoglnmeciaaGreatDoor
namespace Rows

/-- THE TIED CARD OF 'bedrocklaw24.TxAtomic'. -/
def txAtomicCard : Claim7 := { stood := { row := txAtomicRow, standIns := [], harness := (true, "72fc592485ff58a47244c92dafa5b6fa21e820533a3114503f8e249eca33d1a1"), looks := true }, kinds := [], alts := [], laidByText := true, laidKinds := [.data, .data], laidTests := true, laidLooks := .later }
def TxAtomicCardSaid : Prop := Claim7.holds Tryz.pinned (.plain (OpenSpec.ofChange txAtomicSpec)) txAtomicCard

/-- THE TIED CARD OF 'bedrocklaw24.TxPlays'. -/
def txPlaysCard : Claim7 := { stood := { row := txPlaysRow, standIns := [], harness := (true, "72fc592485ff58a47244c92dafa5b6fa21e820533a3114503f8e249eca33d1a1"), looks := true }, kinds := [], alts := [], laidByText := true, laidKinds := [.data, .data], laidTests := true, laidLooks := .later }
def TxPlaysCardSaid : Prop := Claim7.holds Tryz.pinned (.plain (OpenSpec.ofChange txPlaysSpec)) txPlaysCard

/-- THE TIED CARD OF 'bedrocklaw29.BlobReads'. -/
def blobReadsCard : Claim7 := { stood := { row := blobReadsRow, standIns := [], harness := (true, "72fc592485ff58a47244c92dafa5b6fa21e820533a3114503f8e249eca33d1a1"), looks := true }, kinds := [], alts := [], laidByText := true, laidKinds := [.data, .data], laidTests := true, laidLooks := .later }
def BlobReadsCardSaid : Prop := Claim7.holds Tryz.pinned (.plain (OpenSpec.ofChange blobReadsSpec)) blobReadsCard

/-- THE TIED CARD OF 'bedrocklaw29.BlobInTx'. -/
def blobInTxCard : Claim7 := { stood := { row := blobInTxRow, standIns := [], harness := (true, "72fc592485ff58a47244c92dafa5b6fa21e820533a3114503f8e249eca33d1a1"), looks := true }, kinds := [], alts := [], laidByText := true, laidKinds := [.data, .data], laidTests := true, laidLooks := .later }
def BlobInTxCardSaid : Prop := Claim7.holds Tryz.pinned (.plain (OpenSpec.ofChange blobInTxSpec)) blobInTxCard

/-- THE TIED CARD OF 'bedrocklaw37.VersionReads'. -/
def versionReadsCard : Claim7 := { stood := { row := versionReadsRow, standIns := [], harness := (true, "72fc592485ff58a47244c92dafa5b6fa21e820533a3114503f8e249eca33d1a1"), looks := true }, kinds := [], alts := [], laidByText := true, laidKinds := [.data, .data], laidTests := true, laidLooks := .later }
def VersionReadsCardSaid : Prop := Claim7.holds Tryz.pinned (.plain (OpenSpec.ofChange versionReadsSpec)) versionReadsCard

/-- THE TIED CARD OF 'bedrocklaw37.VersionPrunes'. -/
def versionPrunesCard : Claim7 := { stood := { row := versionPrunesRow, standIns := [], harness := (true, "72fc592485ff58a47244c92dafa5b6fa21e820533a3114503f8e249eca33d1a1"), looks := true }, kinds := [], alts := [], laidByText := true, laidKinds := [.data, .data], laidTests := true, laidLooks := .later }
def VersionPrunesCardSaid : Prop := Claim7.holds Tryz.pinned (.plain (OpenSpec.ofChange versionPrunesSpec)) versionPrunesCard

/-- THE TIED CARD OF 'bedrocklaw38.SnapshotPlays'. -/
def snapshotPlaysCard : Claim7 := { stood := { row := snapshotPlaysRow, standIns := [], harness := (true, "72fc592485ff58a47244c92dafa5b6fa21e820533a3114503f8e249eca33d1a1"), looks := true }, kinds := [], alts := [], laidByText := true, laidKinds := [.data, .data], laidTests := true, laidLooks := .later }
def SnapshotPlaysCardSaid : Prop := Claim7.holds Tryz.pinned (.plain (OpenSpec.ofChange snapshotPlaysSpec)) snapshotPlaysCard

/-- THE TIED CARD OF 'bedrocklaw38.SnapshotAtomic'. -/
def snapshotAtomicCard : Claim7 := { stood := { row := snapshotAtomicRow, standIns := [], harness := (true, "72fc592485ff58a47244c92dafa5b6fa21e820533a3114503f8e249eca33d1a1"), looks := true }, kinds := [], alts := [], laidByText := true, laidKinds := [.data, .data], laidTests := true, laidLooks := .later }
def SnapshotAtomicCardSaid : Prop := Claim7.holds Tryz.pinned (.plain (OpenSpec.ofChange snapshotAtomicSpec)) snapshotAtomicCard

/-- THE TIED CARD OF 'bedrocklaw38.SnapshotInTx'. -/
def snapshotInTxCard : Claim7 := { stood := { row := snapshotInTxRow, standIns := [], harness := (true, "72fc592485ff58a47244c92dafa5b6fa21e820533a3114503f8e249eca33d1a1"), looks := true }, kinds := [], alts := [], laidByText := true, laidKinds := [.data, .data], laidTests := true, laidLooks := .later }
def SnapshotInTxCardSaid : Prop := Claim7.holds Tryz.pinned (.plain (OpenSpec.ofChange snapshotInTxSpec)) snapshotInTxCard

/-- THE SECOND FORM's CARD OF 'bedrocklaw24.TxAtomic'. -/
def txAtomicUptoCard : Claim7 := { stood := { row := txAtomicUptoRow, standIns := [], harness := (true, "72fc592485ff58a47244c92dafa5b6fa21e820533a3114503f8e249eca33d1a1"), looks := true }, kinds := [], alts := [], laidByText := true, laidKinds := [.data, .data], laidTests := true, laidLooks := .later }
def TxAtomicUptoCardSaid : Prop := Claim7.holds Tryz.pinned (.plain (OpenSpec.upto txAtomicSpec)) txAtomicUptoCard

/-- THE SECOND FORM's CARD OF 'bedrocklaw24.TxPlays'. -/
def txPlaysUptoCard : Claim7 := { stood := { row := txPlaysUptoRow, standIns := [], harness := (true, "72fc592485ff58a47244c92dafa5b6fa21e820533a3114503f8e249eca33d1a1"), looks := true }, kinds := [], alts := [], laidByText := true, laidKinds := [.data, .data], laidTests := true, laidLooks := .later }
def TxPlaysUptoCardSaid : Prop := Claim7.holds Tryz.pinned (.plain (OpenSpec.upto txPlaysSpec)) txPlaysUptoCard

/-- THE SECOND FORM's CARD OF 'bedrocklaw29.BlobReads'. -/
def blobReadsUptoCard : Claim7 := { stood := { row := blobReadsUptoRow, standIns := [], harness := (true, "72fc592485ff58a47244c92dafa5b6fa21e820533a3114503f8e249eca33d1a1"), looks := true }, kinds := [], alts := [], laidByText := true, laidKinds := [.data, .data], laidTests := true, laidLooks := .later }
def BlobReadsUptoCardSaid : Prop := Claim7.holds Tryz.pinned (.plain (OpenSpec.upto blobReadsSpec)) blobReadsUptoCard

/-- THE SECOND FORM's CARD OF 'bedrocklaw29.BlobInTx'. -/
def blobInTxUptoCard : Claim7 := { stood := { row := blobInTxUptoRow, standIns := [], harness := (true, "72fc592485ff58a47244c92dafa5b6fa21e820533a3114503f8e249eca33d1a1"), looks := true }, kinds := [], alts := [], laidByText := true, laidKinds := [.data, .data], laidTests := true, laidLooks := .later }
def BlobInTxUptoCardSaid : Prop := Claim7.holds Tryz.pinned (.plain (OpenSpec.upto blobInTxSpec)) blobInTxUptoCard

/-- THE SECOND FORM's CARD OF 'bedrocklaw37.VersionReads'. -/
def versionReadsUptoCard : Claim7 := { stood := { row := versionReadsUptoRow, standIns := [], harness := (true, "72fc592485ff58a47244c92dafa5b6fa21e820533a3114503f8e249eca33d1a1"), looks := true }, kinds := [], alts := [], laidByText := true, laidKinds := [.data, .data], laidTests := true, laidLooks := .later }
def VersionReadsUptoCardSaid : Prop := Claim7.holds Tryz.pinned (.plain (OpenSpec.upto versionReadsSpec)) versionReadsUptoCard

/-- THE SECOND FORM's CARD OF 'bedrocklaw37.VersionPrunes'. -/
def versionPrunesUptoCard : Claim7 := { stood := { row := versionPrunesUptoRow, standIns := [], harness := (true, "72fc592485ff58a47244c92dafa5b6fa21e820533a3114503f8e249eca33d1a1"), looks := true }, kinds := [], alts := [], laidByText := true, laidKinds := [.data, .data], laidTests := true, laidLooks := .later }
def VersionPrunesUptoCardSaid : Prop := Claim7.holds Tryz.pinned (.plain (OpenSpec.upto versionPrunesSpec)) versionPrunesUptoCard

/-- THE SECOND FORM's CARD OF 'bedrocklaw38.SnapshotPlays'. -/
def snapshotPlaysUptoCard : Claim7 := { stood := { row := snapshotPlaysUptoRow, standIns := [], harness := (true, "72fc592485ff58a47244c92dafa5b6fa21e820533a3114503f8e249eca33d1a1"), looks := true }, kinds := [], alts := [], laidByText := true, laidKinds := [.data, .data], laidTests := true, laidLooks := .later }
def SnapshotPlaysUptoCardSaid : Prop := Claim7.holds Tryz.pinned (.plain (OpenSpec.upto snapshotPlaysSpec)) snapshotPlaysUptoCard

/-- THE SECOND FORM's CARD OF 'bedrocklaw38.SnapshotAtomic'. -/
def snapshotAtomicUptoCard : Claim7 := { stood := { row := snapshotAtomicUptoRow, standIns := [], harness := (true, "72fc592485ff58a47244c92dafa5b6fa21e820533a3114503f8e249eca33d1a1"), looks := true }, kinds := [], alts := [], laidByText := true, laidKinds := [.data, .data], laidTests := true, laidLooks := .later }
def SnapshotAtomicUptoCardSaid : Prop := Claim7.holds Tryz.pinned (.plain (OpenSpec.upto snapshotAtomicSpec)) snapshotAtomicUptoCard

/-- THE SECOND FORM's CARD OF 'bedrocklaw38.SnapshotInTx'. -/
def snapshotInTxUptoCard : Claim7 := { stood := { row := snapshotInTxUptoRow, standIns := [], harness := (true, "72fc592485ff58a47244c92dafa5b6fa21e820533a3114503f8e249eca33d1a1"), looks := true }, kinds := [], alts := [], laidByText := true, laidKinds := [.data, .data], laidTests := true, laidLooks := .later }
def SnapshotInTxUptoCardSaid : Prop := Claim7.holds Tryz.pinned (.plain (OpenSpec.upto snapshotInTxSpec)) snapshotInTxUptoCard
end Rows
end Go.Proofs.YtfkjjoglnmeciaaGreatDoor
