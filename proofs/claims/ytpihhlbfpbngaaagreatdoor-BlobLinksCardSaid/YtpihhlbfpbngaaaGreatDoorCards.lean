/-
  DERIVED. GIVEN WITH THE SEED: THE CARDS: each row of YtpihhlbfpbngaaaGreatDoorRows.lean that lists a variable, with what it lists TIED to the program's text (the seventh form; the later family's looks); each row that meets fmt, with fmt's text TOLD by the authors' own Lean function (tested against real Go, not proved from fmt's source: count such statements apart). THE CARD IS WHAT COUNTS. Prove the row's statement (the work); the ties are given (YtpihhlbfpbngaaaGreatDoorTie.lean); close each card by the builder's one call (the guide's Derived/Test/ToyasCard.lean, 'card_holds'). Laid BY PROGRAM, IN A SANDBOX (cutbox-door.mjs). By AI agents, Wed Nov 11 2026. No macro, syntax, notation, axiom, sorry.
-/
import Derived.Test.YtpihhlbfpbngaaaGreatDoorRows
import GoSem.ClaimSeven
namespace Go.Proofs.YtpihhlbfpbngaaaGreatDoor
namespace Rows

/-- THE TIED CARD OF 'bedrocklaw29.BlobCompares'. -/
def blobComparesCard : Claim7 := { stood := { row := blobComparesRow, standIns := [], harness := (true, "620f1bbbe5871c1da20b976652e0bca274b91f04343b91f597b00c31e9d7f56b"), looks := true }, kinds := [], alts := [], laidByText := true, laidKinds := [.data, .data], laidTests := true, laidLooks := .later }
def BlobComparesCardSaid : Prop := Claim7.holds Tryz.pinned (.plain (OpenSpec.ofChange blobComparesSpec)) blobComparesCard

/-- THE TIED CARD OF 'bedrocklaw29.BlobFormat'. -/
def blobFormatCard : Claim7 := { stood := { row := blobFormatRow, standIns := [], harness := (true, "620f1bbbe5871c1da20b976652e0bca274b91f04343b91f597b00c31e9d7f56b"), looks := true }, kinds := [], alts := [], laidByText := true, laidKinds := [.data, .data], laidTests := true, laidLooks := .later }
def BlobFormatCardSaid : Prop := Claim7.holds Tryz.pinned (.plain (OpenSpec.ofChange blobFormatSpec)) blobFormatCard

/-- THE TIED CARD OF 'bedrocklaw29.BlobBursts'. -/
def blobBurstsCard : Claim7 := { stood := { row := blobBurstsRow, standIns := [], harness := (true, "620f1bbbe5871c1da20b976652e0bca274b91f04343b91f597b00c31e9d7f56b"), looks := true }, kinds := [], alts := [], laidByText := true, laidKinds := [.data, .data], laidTests := true, laidLooks := .later }
def BlobBurstsCardSaid : Prop := Claim7.holds Tryz.pinned (.plain (OpenSpec.ofChange blobBurstsSpec)) blobBurstsCard

/-- THE TIED CARD OF 'bedrocklaw29.BlobRefuses'. -/
def blobRefusesCard : Claim7 := { stood := { row := blobRefusesRow, standIns := [], harness := (true, "620f1bbbe5871c1da20b976652e0bca274b91f04343b91f597b00c31e9d7f56b"), looks := true }, kinds := [], alts := [], laidByText := true, laidKinds := [.data, .data], laidTests := true, laidLooks := .later }
def BlobRefusesCardSaid : Prop := Claim7.holds Tryz.pinned (.plain (OpenSpec.ofChange blobRefusesSpec)) blobRefusesCard

/-- THE TIED CARD OF 'bedrocklaw29.BlobLinks'. -/
def blobLinksCard : Claim7 := { stood := { row := blobLinksRow, standIns := [], harness := (true, "620f1bbbe5871c1da20b976652e0bca274b91f04343b91f597b00c31e9d7f56b"), looks := true }, kinds := [], alts := [], laidByText := true, laidKinds := [.data, .data], laidTests := true, laidLooks := .later }
def BlobLinksCardSaid : Prop := Claim7.holds Tryz.pinned (.plain (OpenSpec.ofChange blobLinksSpec)) blobLinksCard

/-- THE TIED CARD OF 'bedrocklaw24.TxAtomic'. -/
def txAtomicCard : Claim7 := { stood := { row := txAtomicRow, standIns := [], harness := (true, "620f1bbbe5871c1da20b976652e0bca274b91f04343b91f597b00c31e9d7f56b"), looks := true }, kinds := [], alts := [], laidByText := true, laidKinds := [.data, .data], laidTests := true, laidLooks := .later }
def TxAtomicCardSaid : Prop := Claim7.holds Tryz.pinned (.plain (OpenSpec.ofChange txAtomicSpec)) txAtomicCard

/-- THE TIED CARD OF 'bedrocklaw24.TxPlays'. -/
def txPlaysCard : Claim7 := { stood := { row := txPlaysRow, standIns := [], harness := (true, "620f1bbbe5871c1da20b976652e0bca274b91f04343b91f597b00c31e9d7f56b"), looks := true }, kinds := [], alts := [], laidByText := true, laidKinds := [.data, .data], laidTests := true, laidLooks := .later }
def TxPlaysCardSaid : Prop := Claim7.holds Tryz.pinned (.plain (OpenSpec.ofChange txPlaysSpec)) txPlaysCard

/-- THE TIED CARD OF 'bedrocklaw29.BlobReads'. -/
def blobReadsCard : Claim7 := { stood := { row := blobReadsRow, standIns := [], harness := (true, "620f1bbbe5871c1da20b976652e0bca274b91f04343b91f597b00c31e9d7f56b"), looks := true }, kinds := [], alts := [], laidByText := true, laidKinds := [.data, .data], laidTests := true, laidLooks := .later }
def BlobReadsCardSaid : Prop := Claim7.holds Tryz.pinned (.plain (OpenSpec.ofChange blobReadsSpec)) blobReadsCard

/-- THE TIED CARD OF 'bedrocklaw29.BlobInTx'. -/
def blobInTxCard : Claim7 := { stood := { row := blobInTxRow, standIns := [], harness := (true, "620f1bbbe5871c1da20b976652e0bca274b91f04343b91f597b00c31e9d7f56b"), looks := true }, kinds := [], alts := [], laidByText := true, laidKinds := [.data, .data], laidTests := true, laidLooks := .later }
def BlobInTxCardSaid : Prop := Claim7.holds Tryz.pinned (.plain (OpenSpec.ofChange blobInTxSpec)) blobInTxCard

/-- THE SECOND FORM's CARD OF 'bedrocklaw29.BlobCompares'. -/
def blobComparesUptoCard : Claim7 := { stood := { row := blobComparesUptoRow, standIns := [], harness := (true, "620f1bbbe5871c1da20b976652e0bca274b91f04343b91f597b00c31e9d7f56b"), looks := true }, kinds := [], alts := [], laidByText := true, laidKinds := [.data, .data], laidTests := true, laidLooks := .later }
def BlobComparesUptoCardSaid : Prop := Claim7.holds Tryz.pinned (.plain (OpenSpec.upto blobComparesSpec)) blobComparesUptoCard

/-- THE SECOND FORM's CARD OF 'bedrocklaw29.BlobFormat'. -/
def blobFormatUptoCard : Claim7 := { stood := { row := blobFormatUptoRow, standIns := [], harness := (true, "620f1bbbe5871c1da20b976652e0bca274b91f04343b91f597b00c31e9d7f56b"), looks := true }, kinds := [], alts := [], laidByText := true, laidKinds := [.data, .data], laidTests := true, laidLooks := .later }
def BlobFormatUptoCardSaid : Prop := Claim7.holds Tryz.pinned (.plain (OpenSpec.upto blobFormatSpec)) blobFormatUptoCard

/-- THE SECOND FORM's CARD OF 'bedrocklaw29.BlobBursts'. -/
def blobBurstsUptoCard : Claim7 := { stood := { row := blobBurstsUptoRow, standIns := [], harness := (true, "620f1bbbe5871c1da20b976652e0bca274b91f04343b91f597b00c31e9d7f56b"), looks := true }, kinds := [], alts := [], laidByText := true, laidKinds := [.data, .data], laidTests := true, laidLooks := .later }
def BlobBurstsUptoCardSaid : Prop := Claim7.holds Tryz.pinned (.plain (OpenSpec.upto blobBurstsSpec)) blobBurstsUptoCard

/-- THE SECOND FORM's CARD OF 'bedrocklaw29.BlobRefuses'. -/
def blobRefusesUptoCard : Claim7 := { stood := { row := blobRefusesUptoRow, standIns := [], harness := (true, "620f1bbbe5871c1da20b976652e0bca274b91f04343b91f597b00c31e9d7f56b"), looks := true }, kinds := [], alts := [], laidByText := true, laidKinds := [.data, .data], laidTests := true, laidLooks := .later }
def BlobRefusesUptoCardSaid : Prop := Claim7.holds Tryz.pinned (.plain (OpenSpec.upto blobRefusesSpec)) blobRefusesUptoCard

/-- THE SECOND FORM's CARD OF 'bedrocklaw29.BlobLinks'. -/
def blobLinksUptoCard : Claim7 := { stood := { row := blobLinksUptoRow, standIns := [], harness := (true, "620f1bbbe5871c1da20b976652e0bca274b91f04343b91f597b00c31e9d7f56b"), looks := true }, kinds := [], alts := [], laidByText := true, laidKinds := [.data, .data], laidTests := true, laidLooks := .later }
def BlobLinksUptoCardSaid : Prop := Claim7.holds Tryz.pinned (.plain (OpenSpec.upto blobLinksSpec)) blobLinksUptoCard

/-- THE SECOND FORM's CARD OF 'bedrocklaw24.TxAtomic'. -/
def txAtomicUptoCard : Claim7 := { stood := { row := txAtomicUptoRow, standIns := [], harness := (true, "620f1bbbe5871c1da20b976652e0bca274b91f04343b91f597b00c31e9d7f56b"), looks := true }, kinds := [], alts := [], laidByText := true, laidKinds := [.data, .data], laidTests := true, laidLooks := .later }
def TxAtomicUptoCardSaid : Prop := Claim7.holds Tryz.pinned (.plain (OpenSpec.upto txAtomicSpec)) txAtomicUptoCard

/-- THE SECOND FORM's CARD OF 'bedrocklaw24.TxPlays'. -/
def txPlaysUptoCard : Claim7 := { stood := { row := txPlaysUptoRow, standIns := [], harness := (true, "620f1bbbe5871c1da20b976652e0bca274b91f04343b91f597b00c31e9d7f56b"), looks := true }, kinds := [], alts := [], laidByText := true, laidKinds := [.data, .data], laidTests := true, laidLooks := .later }
def TxPlaysUptoCardSaid : Prop := Claim7.holds Tryz.pinned (.plain (OpenSpec.upto txPlaysSpec)) txPlaysUptoCard

/-- THE SECOND FORM's CARD OF 'bedrocklaw29.BlobReads'. -/
def blobReadsUptoCard : Claim7 := { stood := { row := blobReadsUptoRow, standIns := [], harness := (true, "620f1bbbe5871c1da20b976652e0bca274b91f04343b91f597b00c31e9d7f56b"), looks := true }, kinds := [], alts := [], laidByText := true, laidKinds := [.data, .data], laidTests := true, laidLooks := .later }
def BlobReadsUptoCardSaid : Prop := Claim7.holds Tryz.pinned (.plain (OpenSpec.upto blobReadsSpec)) blobReadsUptoCard

/-- THE SECOND FORM's CARD OF 'bedrocklaw29.BlobInTx'. -/
def blobInTxUptoCard : Claim7 := { stood := { row := blobInTxUptoRow, standIns := [], harness := (true, "620f1bbbe5871c1da20b976652e0bca274b91f04343b91f597b00c31e9d7f56b"), looks := true }, kinds := [], alts := [], laidByText := true, laidKinds := [.data, .data], laidTests := true, laidLooks := .later }
def BlobInTxUptoCardSaid : Prop := Claim7.holds Tryz.pinned (.plain (OpenSpec.upto blobInTxSpec)) blobInTxUptoCard
end Rows
end Go.Proofs.YtpihhlbfpbngaaaGreatDoor
