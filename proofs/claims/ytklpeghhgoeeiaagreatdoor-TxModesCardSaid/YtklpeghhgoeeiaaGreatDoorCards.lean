/-
  DERIVED. GIVEN WITH THE SEED: THE CARDS: each row of YtklpeghhgoeeiaaGreatDoorRows.lean that lists a variable, with what it lists TIED to the program's text (the seventh form; the later family's looks); each row that meets fmt, with fmt's text TOLD by the authors' own Lean function (tested against real Go, not proved from fmt's source: count such statements apart). THE CARD IS WHAT COUNTS. Prove the row's statement (the work); the ties are given (YtklpeghhgoeeiaaGreatDoorTie.lean); close each card by the builder's one call (the guide's Derived/Test/ToyasCard.lean, 'card_holds'). Laid BY PROGRAM, IN A SANDBOX (cutbox-door.mjs). By AI agents, Wed Nov 11 2026. No macro, syntax, notation, axiom, sorry.
-/
import Derived.Test.YtklpeghhgoeeiaaGreatDoorRows
import GoSem.ClaimSeven
namespace Go.Proofs.YtklpeghhgoeeiaaGreatDoor
namespace Rows

/-- THE TIED CARD OF 'bedrocklaw24.TxRollsBack'. -/
def txRollsBackCard : Claim7 := { stood := { row := txRollsBackRow, standIns := [], harness := (true, "d91942ee63ba4ff699251f4745a489b5903ff457033714173ca7cba6b71efe2c"), looks := true }, kinds := [], alts := [], laidByText := true, laidKinds := [.data, .data], laidTests := true, laidLooks := .later }
def TxRollsBackCardSaid : Prop := Claim7.holds Tryz.pinned (.plain (OpenSpec.ofChange txRollsBackSpec)) txRollsBackCard

/-- THE TIED CARD OF 'bedrocklaw24.TxModes'. -/
def txModesCard : Claim7 := { stood := { row := txModesRow, standIns := [], harness := (true, "d91942ee63ba4ff699251f4745a489b5903ff457033714173ca7cba6b71efe2c"), looks := true }, kinds := [], alts := [], laidByText := true, laidKinds := [.data, .data], laidTests := true, laidLooks := .later }
def TxModesCardSaid : Prop := Claim7.holds Tryz.pinned (.plain (OpenSpec.ofChange txModesSpec)) txModesCard

/-- THE TIED CARD OF 'bedrocklaw24.TxLimits'. -/
def txLimitsCard : Claim7 := { stood := { row := txLimitsRow, standIns := [], harness := (true, "d91942ee63ba4ff699251f4745a489b5903ff457033714173ca7cba6b71efe2c"), looks := true }, kinds := [], alts := [], laidByText := true, laidKinds := [.data, .data], laidTests := true, laidLooks := .later }
def TxLimitsCardSaid : Prop := Claim7.holds Tryz.pinned (.plain (OpenSpec.ofChange txLimitsSpec)) txLimitsCard

/-- THE TIED CARD OF 'bedrocklaw24.TxErrors'. -/
def txErrorsCard : Claim7 := { stood := { row := txErrorsRow, standIns := [], harness := (true, "d91942ee63ba4ff699251f4745a489b5903ff457033714173ca7cba6b71efe2c"), looks := true }, kinds := [], alts := [], laidByText := true, laidKinds := [.data, .data], laidTests := true, laidLooks := .later }
def TxErrorsCardSaid : Prop := Claim7.holds Tryz.pinned (.plain (OpenSpec.ofChange txErrorsSpec)) txErrorsCard

/-- THE TIED CARD OF 'bedrocklaw24.TxEnds'. -/
def txEndsCard : Claim7 := { stood := { row := txEndsRow, standIns := [], harness := (true, "d91942ee63ba4ff699251f4745a489b5903ff457033714173ca7cba6b71efe2c"), looks := true }, kinds := [], alts := [], laidByText := true, laidKinds := [.data, .data], laidTests := true, laidLooks := .later }
def TxEndsCardSaid : Prop := Claim7.holds Tryz.pinned (.plain (OpenSpec.ofChange txEndsSpec)) txEndsCard

/-- THE TIED CARD OF 'bedrocklaw24.TxAtomic'. -/
def txAtomicCard : Claim7 := { stood := { row := txAtomicRow, standIns := [], harness := (true, "d91942ee63ba4ff699251f4745a489b5903ff457033714173ca7cba6b71efe2c"), looks := true }, kinds := [], alts := [], laidByText := true, laidKinds := [.data, .data], laidTests := true, laidLooks := .later }
def TxAtomicCardSaid : Prop := Claim7.holds Tryz.pinned (.plain (OpenSpec.ofChange txAtomicSpec)) txAtomicCard

/-- THE TIED CARD OF 'bedrocklaw24.TxPlays'. -/
def txPlaysCard : Claim7 := { stood := { row := txPlaysRow, standIns := [], harness := (true, "d91942ee63ba4ff699251f4745a489b5903ff457033714173ca7cba6b71efe2c"), looks := true }, kinds := [], alts := [], laidByText := true, laidKinds := [.data, .data], laidTests := true, laidLooks := .later }
def TxPlaysCardSaid : Prop := Claim7.holds Tryz.pinned (.plain (OpenSpec.ofChange txPlaysSpec)) txPlaysCard

/-- THE SECOND FORM's CARD OF 'bedrocklaw24.TxRollsBack'. -/
def txRollsBackUptoCard : Claim7 := { stood := { row := txRollsBackUptoRow, standIns := [], harness := (true, "d91942ee63ba4ff699251f4745a489b5903ff457033714173ca7cba6b71efe2c"), looks := true }, kinds := [], alts := [], laidByText := true, laidKinds := [.data, .data], laidTests := true, laidLooks := .later }
def TxRollsBackUptoCardSaid : Prop := Claim7.holds Tryz.pinned (.plain (OpenSpec.upto txRollsBackSpec)) txRollsBackUptoCard

/-- THE SECOND FORM's CARD OF 'bedrocklaw24.TxModes'. -/
def txModesUptoCard : Claim7 := { stood := { row := txModesUptoRow, standIns := [], harness := (true, "d91942ee63ba4ff699251f4745a489b5903ff457033714173ca7cba6b71efe2c"), looks := true }, kinds := [], alts := [], laidByText := true, laidKinds := [.data, .data], laidTests := true, laidLooks := .later }
def TxModesUptoCardSaid : Prop := Claim7.holds Tryz.pinned (.plain (OpenSpec.upto txModesSpec)) txModesUptoCard

/-- THE SECOND FORM's CARD OF 'bedrocklaw24.TxLimits'. -/
def txLimitsUptoCard : Claim7 := { stood := { row := txLimitsUptoRow, standIns := [], harness := (true, "d91942ee63ba4ff699251f4745a489b5903ff457033714173ca7cba6b71efe2c"), looks := true }, kinds := [], alts := [], laidByText := true, laidKinds := [.data, .data], laidTests := true, laidLooks := .later }
def TxLimitsUptoCardSaid : Prop := Claim7.holds Tryz.pinned (.plain (OpenSpec.upto txLimitsSpec)) txLimitsUptoCard

/-- THE SECOND FORM's CARD OF 'bedrocklaw24.TxErrors'. -/
def txErrorsUptoCard : Claim7 := { stood := { row := txErrorsUptoRow, standIns := [], harness := (true, "d91942ee63ba4ff699251f4745a489b5903ff457033714173ca7cba6b71efe2c"), looks := true }, kinds := [], alts := [], laidByText := true, laidKinds := [.data, .data], laidTests := true, laidLooks := .later }
def TxErrorsUptoCardSaid : Prop := Claim7.holds Tryz.pinned (.plain (OpenSpec.upto txErrorsSpec)) txErrorsUptoCard

/-- THE SECOND FORM's CARD OF 'bedrocklaw24.TxEnds'. -/
def txEndsUptoCard : Claim7 := { stood := { row := txEndsUptoRow, standIns := [], harness := (true, "d91942ee63ba4ff699251f4745a489b5903ff457033714173ca7cba6b71efe2c"), looks := true }, kinds := [], alts := [], laidByText := true, laidKinds := [.data, .data], laidTests := true, laidLooks := .later }
def TxEndsUptoCardSaid : Prop := Claim7.holds Tryz.pinned (.plain (OpenSpec.upto txEndsSpec)) txEndsUptoCard

/-- THE SECOND FORM's CARD OF 'bedrocklaw24.TxAtomic'. -/
def txAtomicUptoCard : Claim7 := { stood := { row := txAtomicUptoRow, standIns := [], harness := (true, "d91942ee63ba4ff699251f4745a489b5903ff457033714173ca7cba6b71efe2c"), looks := true }, kinds := [], alts := [], laidByText := true, laidKinds := [.data, .data], laidTests := true, laidLooks := .later }
def TxAtomicUptoCardSaid : Prop := Claim7.holds Tryz.pinned (.plain (OpenSpec.upto txAtomicSpec)) txAtomicUptoCard

/-- THE SECOND FORM's CARD OF 'bedrocklaw24.TxPlays'. -/
def txPlaysUptoCard : Claim7 := { stood := { row := txPlaysUptoRow, standIns := [], harness := (true, "d91942ee63ba4ff699251f4745a489b5903ff457033714173ca7cba6b71efe2c"), looks := true }, kinds := [], alts := [], laidByText := true, laidKinds := [.data, .data], laidTests := true, laidLooks := .later }
def TxPlaysUptoCardSaid : Prop := Claim7.holds Tryz.pinned (.plain (OpenSpec.upto txPlaysSpec)) txPlaysUptoCard
end Rows
end Go.Proofs.YtklpeghhgoeeiaaGreatDoor
