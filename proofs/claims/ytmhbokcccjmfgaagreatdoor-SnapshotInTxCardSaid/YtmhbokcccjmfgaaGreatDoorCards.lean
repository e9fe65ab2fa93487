/-
  DERIVED. GIVEN WITH THE SEED: THE CARDS: each row of YtmhbokcccjmfgaaGreatDoorRows.lean that lists a variable, with what it lists TIED to the program's text (the seventh form; the later family's looks); each row that meets fmt, with fmt's text TOLD by the authors' own Lean function (tested against real Go, not proved from fmt's source: count such statements apart). THE CARD IS WHAT COUNTS. Prove the row's statement (the work); the ties are given (YtmhbokcccjmfgaaGreatDoorTie.lean); close each card by the builder's one call (the guide's Derived/Test/ToyasCard.lean, 'card_holds'). Laid BY PROGRAM, IN A SANDBOX (cutbox-door.mjs). By AI agents, Wed Nov 11 2026. No macro, syntax, notation, axiom, sorry.
-/
import Derived.Test.YtmhbokcccjmfgaaGreatDoorRows
import GoSem.ClaimSeven
namespace Go.Proofs.YtmhbokcccjmfgaaGreatDoor
namespace Rows

/-- THE TIED CARD OF 'bedrocklaw24.TxAtomic'. -/
def txAtomicCard : Claim7 := { stood := { row := txAtomicRow, standIns := [], harness := (true, "863f56ab7241133420c3af931ecaa815a298851fcab2425a382c8592a8857630"), looks := true }, kinds := [], alts := [], laidByText := true, laidKinds := [.data, .data], laidTests := true, laidLooks := .later }
def TxAtomicCardSaid : Prop := Claim7.holds Tryz.pinned (.plain (OpenSpec.ofChange txAtomicSpec)) txAtomicCard

/-- THE TIED CARD OF 'bedrocklaw24.TxPlays'. -/
def txPlaysCard : Claim7 := { stood := { row := txPlaysRow, standIns := [], harness := (true, "863f56ab7241133420c3af931ecaa815a298851fcab2425a382c8592a8857630"), looks := true }, kinds := [], alts := [], laidByText := true, laidKinds := [.data, .data], laidTests := true, laidLooks := .later }
def TxPlaysCardSaid : Prop := Claim7.holds Tryz.pinned (.plain (OpenSpec.ofChange txPlaysSpec)) txPlaysCard

/-- THE TIED CARD OF 'bedrocklaw29.BlobInTx'. -/
def blobInTxCard : Claim7 := { stood := { row := blobInTxRow, standIns := [], harness := (true, "863f56ab7241133420c3af931ecaa815a298851fcab2425a382c8592a8857630"), looks := true }, kinds := [], alts := [], laidByText := true, laidKinds := [.data, .data], laidTests := true, laidLooks := .later }
def BlobInTxCardSaid : Prop := Claim7.holds Tryz.pinned (.plain (OpenSpec.ofChange blobInTxSpec)) blobInTxCard

/-- THE TIED CARD OF 'bedrocklaw38.SnapshotAtomic'. -/
def snapshotAtomicCard : Claim7 := { stood := { row := snapshotAtomicRow, standIns := [], harness := (true, "863f56ab7241133420c3af931ecaa815a298851fcab2425a382c8592a8857630"), looks := true }, kinds := [], alts := [], laidByText := true, laidKinds := [.data, .data], laidTests := true, laidLooks := .later }
def SnapshotAtomicCardSaid : Prop := Claim7.holds Tryz.pinned (.plain (OpenSpec.ofChange snapshotAtomicSpec)) snapshotAtomicCard

/-- THE TIED CARD OF 'bedrocklaw38.SnapshotInTx'. -/
def snapshotInTxCard : Claim7 := { stood := { row := snapshotInTxRow, standIns := [], harness := (true, "863f56ab7241133420c3af931ecaa815a298851fcab2425a382c8592a8857630"), looks := true }, kinds := [], alts := [], laidByText := true, laidKinds := [.data, .data], laidTests := true, laidLooks := .later }
def SnapshotInTxCardSaid : Prop := Claim7.holds Tryz.pinned (.plain (OpenSpec.ofChange snapshotInTxSpec)) snapshotInTxCard

/-- THE SECOND FORM's CARD OF 'bedrocklaw24.TxAtomic'. -/
def txAtomicUptoCard : Claim7 := { stood := { row := txAtomicUptoRow, standIns := [], harness := (true, "863f56ab7241133420c3af931ecaa815a298851fcab2425a382c8592a8857630"), looks := true }, kinds := [], alts := [], laidByText := true, laidKinds := [.data, .data], laidTests := true, laidLooks := .later }
def TxAtomicUptoCardSaid : Prop := Claim7.holds Tryz.pinned (.plain (OpenSpec.upto txAtomicSpec)) txAtomicUptoCard

/-- THE SECOND FORM's CARD OF 'bedrocklaw24.TxPlays'. -/
def txPlaysUptoCard : Claim7 := { stood := { row := txPlaysUptoRow, standIns := [], harness := (true, "863f56ab7241133420c3af931ecaa815a298851fcab2425a382c8592a8857630"), looks := true }, kinds := [], alts := [], laidByText := true, laidKinds := [.data, .data], laidTests := true, laidLooks := .later }
def TxPlaysUptoCardSaid : Prop := Claim7.holds Tryz.pinned (.plain (OpenSpec.upto txPlaysSpec)) txPlaysUptoCard

/-- THE SECOND FORM's CARD OF 'bedrocklaw29.BlobInTx'. -/
def blobInTxUptoCard : Claim7 := { stood := { row := blobInTxUptoRow, standIns := [], harness := (true, "863f56ab7241133420c3af931ecaa815a298851fcab2425a382c8592a8857630"), looks := true }, kinds := [], alts := [], laidByText := true, laidKinds := [.data, .data], laidTests := true, laidLooks := .later }
def BlobInTxUptoCardSaid : Prop := Claim7.holds Tryz.pinned (.plain (OpenSpec.upto blobInTxSpec)) blobInTxUptoCard

/-- THE SECOND FORM's CARD OF 'bedrocklaw38.SnapshotAtomic'. -/
def snapshotAtomicUptoCard : Claim7 := { stood := { row := snapshotAtomicUptoRow, standIns := [], harness := (true, "863f56ab7241133420c3af931ecaa815a298851fcab2425a382c8592a8857630"), looks := true }, kinds := [], alts := [], laidByText := true, laidKinds := [.data, .data], laidTests := true, laidLooks := .later }
def SnapshotAtomicUptoCardSaid : Prop := Claim7.holds Tryz.pinned (.plain (OpenSpec.upto snapshotAtomicSpec)) snapshotAtomicUptoCard

/-- THE SECOND FORM's CARD OF 'bedrocklaw38.SnapshotInTx'. -/
def snapshotInTxUptoCard : Claim7 := { stood := { row := snapshotInTxUptoRow, standIns := [], harness := (true, "863f56ab7241133420c3af931ecaa815a298851fcab2425a382c8592a8857630"), looks := true }, kinds := [], alts := [], laidByText := true, laidKinds := [.data, .data], laidTests := true, laidLooks := .later }
def SnapshotInTxUptoCardSaid : Prop := Claim7.holds Tryz.pinned (.plain (OpenSpec.upto snapshotInTxSpec)) snapshotInTxUptoCard
end Rows
end Go.Proofs.YtmhbokcccjmfgaaGreatDoor
