/-
  NARROWER THAN 'FOR EVERY INPUT', by the rows' own cells (each row's printed sentence says how): TxRollsBack: laid · TxModes: laid · TxLimits: laid · TxErrors: laid · TxEnds: laid · TxAtomic: laid · TxPlays: laid.
  DERIVED. THE GIVEN ROWS OF THIS SEAT. 7 by the template 'for every input the law returns true; each argument reads behind the call as it read before'; 0 by the template 'total and deterministic' (their statements: YtklpeghhgoeeiaaGreatDoorTotals.lean).
  GIVEN WITH THE SEED: the statements are not yours to turn. If you find one false, say at which input.
  Laid BY PROGRAM, IN A SANDBOX (cutbox-rows.mjs): the forced cells as the released guide's own fill.sh prints them over the translation b44a979f67b3c639… (all of the seat's roots in one cut). By AI agents, Wed Nov 11 2026. No macro, syntax, notation, axiom, sorry.
-/
import Derived.Test.YtklpeghhgoeeiaaGreatDoorChecked
import GoSem.Claim
import GoSem.ClaimJoined
import GoSem.ClaimMapViews
import Derived.JoinedTies
import Derived.KernelRfl
namespace Go.Proofs.YtklpeghhgoeeiaaGreatDoor
/- THE CELL 'sum', in the pinned program and in every row, IS THE sha256 OF THE DUMP (.gsa) THAT YtklpeghhgoeeiaaGreatDoorProg.lean LOADS. Nothing in Lean hashes anything: it is a label: what it is worth is what the hold of that sum in a sandbox is worth. -/
noncomputable def Tryz.pinned : Pinned := { name := "ytklpeghhgoeeiaagreatdoor", sum := "b44a979f67b3c639194b397204ce210a28aa33b3b3a9931cedd265008d7a6cfd", checked := Tryz.checked }
namespace Rows
def none {H : Type} : Left H := { results := [], args := [] }

/- WHAT THE LISTED PACKAGE-LEVEL VARIABLES READ AS WHEN THE CALL BEGINS. Each datum BY PROGRAM (the guide's laid-datum.mjs) off the statement by which the dump's own 'gosem.cut.vars' lays the variable. In a bare row this is a premise. The card (YtklpeghhgoeeiaaGreatDoorCards.lean) ties it to the program's text. -/
def laid_bedrock_crc_nibbles {H : Type} : DataW H := .agg [.lit (.int .u32 0), .lit (.int .u32 274646895), .lit (.int .u32 549293790), .lit (.int .u32 820201905), .lit (.int .u32 1098587580), .lit (.int .u32 1361435347), .lit (.int .u32 1640403810), .lit (.int .u32 1905808397), .lit (.int .u32 2197175160), .lit (.int .u32 2460548119), .lit (.int .u32 2722870694), .lit (.int .u32 2987750089), .lit (.int .u32 3280807620), .lit (.int .u32 3553878443), .lit (.int .u32 3811616794), .lit (.int .u32 4084100981)]
def laid_bedrock_sizeclass_payload {H : Type} : DataW H := .agg [.lit (.int .i64 3), .lit (.int .i64 7), .lit (.int .i64 15), .lit (.int .i64 31), .lit (.int .i64 60)]

/-- 'bedrocklaw24.TxRollsBack': WHATEVER THE INPUT: true; the input reads as it did. -/
def txRollsBackSpec : ChangeSpec := { name := "txRollsBack", fn := fun _ => fun
  | [d1, d2] => { results := [.lit (.bool true)], args := [d1, d2] }
  | _ => none }
def txRollsBackRow : OpenClaim := { program := "ytklpeghhgoeeiaagreatdoor", sum := "b44a979f67b3c639194b397204ce210a28aa33b3b3a9931cedd265008d7a6cfd", func := "bedrock/bedrocklaw24.TxRollsBack", spec := "txRollsBack", inPlace := ["maps.clone"], unfollowed := true, recurses := true, named := ["bedrock/crc.nibbles", "bedrock/sizeclass.payload"], apart := false, laid := [("bedrock/crc.nibbles", laid_bedrock_crc_nibbles), ("bedrock/sizeclass.payload", laid_bedrock_sizeclass_payload)] }
def TxRollsBackSaid : Prop := txRollsBackRow.holds Tryz.pinned (OpenSpec.ofChange txRollsBackSpec)

/-- ITS FALSE NEIGHBOUR: 'it returns false'. Refute it at one input. -/
def txRollsBackWrong : ChangeSpec := { name := "txRollsBack", fn := fun _ => fun
  | [d1, d2] => { results := [.lit (.bool false)], args := [d1, d2] }
  | _ => none }
def TxRollsBackWrongFalsely : Prop := txRollsBackRow.holds Tryz.pinned (OpenSpec.ofChange txRollsBackWrong)

/-- 'bedrocklaw24.TxModes': WHATEVER THE INPUT: true; the input reads as it did. -/
def txModesSpec : ChangeSpec := { name := "txModes", fn := fun _ => fun
  | [d] => { results := [.lit (.bool true)], args := [d] }
  | _ => none }
def txModesRow : OpenClaim := { program := "ytklpeghhgoeeiaagreatdoor", sum := "b44a979f67b3c639194b397204ce210a28aa33b3b3a9931cedd265008d7a6cfd", func := "bedrock/bedrocklaw24.TxModes", spec := "txModes", inPlace := ["maps.clone"], unfollowed := true, recurses := true, named := ["bedrock/crc.nibbles", "bedrock/sizeclass.payload"], apart := false, laid := [("bedrock/crc.nibbles", laid_bedrock_crc_nibbles), ("bedrock/sizeclass.payload", laid_bedrock_sizeclass_payload)] }
def TxModesSaid : Prop := txModesRow.holds Tryz.pinned (OpenSpec.ofChange txModesSpec)

/-- ITS FALSE NEIGHBOUR: 'it returns false'. Refute it at one input. -/
def txModesWrong : ChangeSpec := { name := "txModes", fn := fun _ => fun
  | [d] => { results := [.lit (.bool false)], args := [d] }
  | _ => none }
def TxModesWrongFalsely : Prop := txModesRow.holds Tryz.pinned (OpenSpec.ofChange txModesWrong)

/-- 'bedrocklaw24.TxLimits': WHATEVER THE INPUT: true; the input reads as it did. -/
def txLimitsSpec : ChangeSpec := { name := "txLimits", fn := fun _ => fun
  | [d1, d2, d3] => { results := [.lit (.bool true)], args := [d1, d2, d3] }
  | _ => none }
def txLimitsRow : OpenClaim := { program := "ytklpeghhgoeeiaagreatdoor", sum := "b44a979f67b3c639194b397204ce210a28aa33b3b3a9931cedd265008d7a6cfd", func := "bedrock/bedrocklaw24.TxLimits", spec := "txLimits", inPlace := ["maps.clone"], unfollowed := true, recurses := true, named := ["bedrock/crc.nibbles", "bedrock/sizeclass.payload"], apart := false, laid := [("bedrock/crc.nibbles", laid_bedrock_crc_nibbles), ("bedrock/sizeclass.payload", laid_bedrock_sizeclass_payload)] }
def TxLimitsSaid : Prop := txLimitsRow.holds Tryz.pinned (OpenSpec.ofChange txLimitsSpec)

/-- ITS FALSE NEIGHBOUR: 'it returns false'. Refute it at one input. -/
def txLimitsWrong : ChangeSpec := { name := "txLimits", fn := fun _ => fun
  | [d1, d2, d3] => { results := [.lit (.bool false)], args := [d1, d2, d3] }
  | _ => none }
def TxLimitsWrongFalsely : Prop := txLimitsRow.holds Tryz.pinned (OpenSpec.ofChange txLimitsWrong)

/-- 'bedrocklaw24.TxErrors': WHATEVER THE INPUT: true; the input reads as it did. -/
def txErrorsSpec : ChangeSpec := { name := "txErrors", fn := fun _ => fun
  | [d1, d2, d3] => { results := [.lit (.bool true)], args := [d1, d2, d3] }
  | _ => none }
def txErrorsRow : OpenClaim := { program := "ytklpeghhgoeeiaagreatdoor", sum := "b44a979f67b3c639194b397204ce210a28aa33b3b3a9931cedd265008d7a6cfd", func := "bedrock/bedrocklaw24.TxErrors", spec := "txErrors", inPlace := ["maps.clone"], unfollowed := true, recurses := true, named := ["bedrock/crc.nibbles", "bedrock/sizeclass.payload"], apart := false, laid := [("bedrock/crc.nibbles", laid_bedrock_crc_nibbles), ("bedrock/sizeclass.payload", laid_bedrock_sizeclass_payload)] }
def TxErrorsSaid : Prop := txErrorsRow.holds Tryz.pinned (OpenSpec.ofChange txErrorsSpec)

/-- ITS FALSE NEIGHBOUR: 'it returns false'. Refute it at one input. -/
def txErrorsWrong : ChangeSpec := { name := "txErrors", fn := fun _ => fun
  | [d1, d2, d3] => { results := [.lit (.bool false)], args := [d1, d2, d3] }
  | _ => none }
def TxErrorsWrongFalsely : Prop := txErrorsRow.holds Tryz.pinned (OpenSpec.ofChange txErrorsWrong)

/-- 'bedrocklaw24.TxEnds': WHATEVER THE INPUT: true; the input reads as it did. -/
def txEndsSpec : ChangeSpec := { name := "txEnds", fn := fun _ => fun
  | [d1, d2, d3] => { results := [.lit (.bool true)], args := [d1, d2, d3] }
  | _ => none }
def txEndsRow : OpenClaim := { program := "ytklpeghhgoeeiaagreatdoor", sum := "b44a979f67b3c639194b397204ce210a28aa33b3b3a9931cedd265008d7a6cfd", func := "bedrock/bedrocklaw24.TxEnds", spec := "txEnds", inPlace := ["maps.clone"], unfollowed := true, recurses := true, named := ["bedrock/crc.nibbles", "bedrock/sizeclass.payload"], apart := false, laid := [("bedrock/crc.nibbles", laid_bedrock_crc_nibbles), ("bedrock/sizeclass.payload", laid_bedrock_sizeclass_payload)] }
def TxEndsSaid : Prop := txEndsRow.holds Tryz.pinned (OpenSpec.ofChange txEndsSpec)

/-- ITS FALSE NEIGHBOUR: 'it returns false'. Refute it at one input. -/
def txEndsWrong : ChangeSpec := { name := "txEnds", fn := fun _ => fun
  | [d1, d2, d3] => { results := [.lit (.bool false)], args := [d1, d2, d3] }
  | _ => none }
def TxEndsWrongFalsely : Prop := txEndsRow.holds Tryz.pinned (OpenSpec.ofChange txEndsWrong)

/-- 'bedrocklaw24.TxAtomic': WHATEVER THE INPUT: true; the input reads as it did. -/
def txAtomicSpec : ChangeSpec := { name := "txAtomic", fn := fun _ => fun
  | [d1, d2, d3] => { results := [.lit (.bool true)], args := [d1, d2, d3] }
  | _ => none }
def txAtomicRow : OpenClaim := { program := "ytklpeghhgoeeiaagreatdoor", sum := "b44a979f67b3c639194b397204ce210a28aa33b3b3a9931cedd265008d7a6cfd", func := "bedrock/bedrocklaw24.TxAtomic", spec := "txAtomic", inPlace := ["maps.clone"], unfollowed := true, recurses := true, named := ["bedrock/crc.nibbles", "bedrock/sizeclass.payload"], apart := false, laid := [("bedrock/crc.nibbles", laid_bedrock_crc_nibbles), ("bedrock/sizeclass.payload", laid_bedrock_sizeclass_payload)] }
def TxAtomicSaid : Prop := txAtomicRow.holds Tryz.pinned (OpenSpec.ofChange txAtomicSpec)

/-- ITS FALSE NEIGHBOUR: 'it returns false'. Refute it at one input. -/
def txAtomicWrong : ChangeSpec := { name := "txAtomic", fn := fun _ => fun
  | [d1, d2, d3] => { results := [.lit (.bool false)], args := [d1, d2, d3] }
  | _ => none }
def TxAtomicWrongFalsely : Prop := txAtomicRow.holds Tryz.pinned (OpenSpec.ofChange txAtomicWrong)

/-- 'bedrocklaw24.TxPlays': WHATEVER THE INPUT: true; the input reads as it did. -/
def txPlaysSpec : ChangeSpec := { name := "txPlays", fn := fun _ => fun
  | [d1, d2] => { results := [.lit (.bool true)], args := [d1, d2] }
  | _ => none }
def txPlaysRow : OpenClaim := { program := "ytklpeghhgoeeiaagreatdoor", sum := "b44a979f67b3c639194b397204ce210a28aa33b3b3a9931cedd265008d7a6cfd", func := "bedrock/bedrocklaw24.TxPlays", spec := "txPlays", inPlace := ["maps.clone"], unfollowed := true, recurses := true, named := ["bedrock/crc.nibbles", "bedrock/sizeclass.payload"], apart := false, laid := [("bedrock/crc.nibbles", laid_bedrock_crc_nibbles), ("bedrock/sizeclass.payload", laid_bedrock_sizeclass_payload)] }
def TxPlaysSaid : Prop := txPlaysRow.holds Tryz.pinned (OpenSpec.ofChange txPlaysSpec)

/-- ITS FALSE NEIGHBOUR: 'it returns false'. Refute it at one input. -/
def txPlaysWrong : ChangeSpec := { name := "txPlays", fn := fun _ => fun
  | [d1, d2] => { results := [.lit (.bool false)], args := [d1, d2] }
  | _ => none }
def TxPlaysWrongFalsely : Prop := txPlaysRow.holds Tryz.pinned (OpenSpec.ofChange txPlaysWrong)

/- THE SECOND FORM. 'bulk': how many values and letters a reading holds, each counted each time it is reached (what is shared counts as often as it is met; a slice's spare places count too). A statement '..UptoSaid' is the law's where the arguments, and the package variables that the reading takes, are together of bulk at most 1048576: NARROWER than '..Said'. Prove '..Said' where nothing that the law and all that it calls make is longer than what came in: it says more and counts as full. Else prove '..UptoSaid'. A law counts once. -/
mutual
def uptoBulk {H : Type} : DataW H → Nat
  | .lit (.string bytes) => bytes.length + 1
  | .lit _ => 1
  | .nil => 1
  | .ptr d => uptoBulk d + 1
  | .slice elems spare => uptoBulkAll elems + uptoBulkAll spare + 1
  | .agg parts => uptoBulkAll parts + 1
  | .iface _ d => uptoBulk d + 1
  | .map entries => uptoBulkEntries entries + 1
  | .held _ => 1
def uptoBulkAll {H : Type} : List (DataW H) → Nat
  | [] => 0
  | d :: r => uptoBulk d + uptoBulkAll r
def uptoBulkEntries {H : Type} : List (Lit × DataW H) → Nat
  | [] => 0
  | x :: r => uptoBulkEntry x + uptoBulkEntries r
def uptoBulkEntry {H : Type} : Lit × DataW H → Nat
  | (.string bytes, d) => bytes.length + uptoBulk d + 1
  | (_, d) => uptoBulk d + 1
 end
def uptoSmall : (H : Type) → List (DataW H) → Bool := fun _ ds => decide (uptoBulkAll ds ≤ 1048576)
def OpenSpec.upto (s : _root_.Go.ChangeSpec) : _root_.Go.OpenSpec := { _root_.Go.OpenSpec.ofChange s with cond := some uptoSmall }

/-- 'bedrocklaw24.TxRollsBack', WHERE WHAT IT READS IS OF BULK AT MOST 1048576: true; the input reads as it did. -/
def txRollsBackUptoRow : OpenClaim := { program := "ytklpeghhgoeeiaagreatdoor", sum := "b44a979f67b3c639194b397204ce210a28aa33b3b3a9931cedd265008d7a6cfd", func := "bedrock/bedrocklaw24.TxRollsBack", spec := "txRollsBack", inPlace := ["maps.clone"], unfollowed := true, recurses := true, named := ["bedrock/crc.nibbles", "bedrock/sizeclass.payload"], apart := false, laid := [("bedrock/crc.nibbles", laid_bedrock_crc_nibbles), ("bedrock/sizeclass.payload", laid_bedrock_sizeclass_payload)], narrowed := true }
def TxRollsBackUptoSaid : Prop := txRollsBackUptoRow.holds Tryz.pinned (OpenSpec.upto txRollsBackSpec)

/-- 'bedrocklaw24.TxModes', WHERE WHAT IT READS IS OF BULK AT MOST 1048576: true; the input reads as it did. -/
def txModesUptoRow : OpenClaim := { program := "ytklpeghhgoeeiaagreatdoor", sum := "b44a979f67b3c639194b397204ce210a28aa33b3b3a9931cedd265008d7a6cfd", func := "bedrock/bedrocklaw24.TxModes", spec := "txModes", inPlace := ["maps.clone"], unfollowed := true, recurses := true, named := ["bedrock/crc.nibbles", "bedrock/sizeclass.payload"], apart := false, laid := [("bedrock/crc.nibbles", laid_bedrock_crc_nibbles), ("bedrock/sizeclass.payload", laid_bedrock_sizeclass_payload)], narrowed := true }
def TxModesUptoSaid : Prop := txModesUptoRow.holds Tryz.pinned (OpenSpec.upto txModesSpec)

/-- 'bedrocklaw24.TxLimits', WHERE WHAT IT READS IS OF BULK AT MOST 1048576: true; the input reads as it did. -/
def txLimitsUptoRow : OpenClaim := { program := "ytklpeghhgoeeiaagreatdoor", sum := "b44a979f67b3c639194b397204ce210a28aa33b3b3a9931cedd265008d7a6cfd", func := "bedrock/bedrocklaw24.TxLimits", spec := "txLimits", inPlace := ["maps.clone"], unfollowed := true, recurses := true, named := ["bedrock/crc.nibbles", "bedrock/sizeclass.payload"], apart := false, laid := [("bedrock/crc.nibbles", laid_bedrock_crc_nibbles), ("bedrock/sizeclass.payload", laid_bedrock_sizeclass_payload)], narrowed := true }
def TxLimitsUptoSaid : Prop := txLimitsUptoRow.holds Tryz.pinned (OpenSpec.upto txLimitsSpec)

/-- 'bedrocklaw24.TxErrors', WHERE WHAT IT READS IS OF BULK AT MOST 1048576: true; the input reads as it did. -/
def txErrorsUptoRow : OpenClaim := { program := "ytklpeghhgoeeiaagreatdoor", sum := "b44a979f67b3c639194b397204ce210a28aa33b3b3a9931cedd265008d7a6cfd", func := "bedrock/bedrocklaw24.TxErrors", spec := "txErrors", inPlace := ["maps.clone"], unfollowed := true, recurses := true, named := ["bedrock/crc.nibbles", "bedrock/sizeclass.payload"], apart := false, laid := [("bedrock/crc.nibbles", laid_bedrock_crc_nibbles), ("bedrock/sizeclass.payload", laid_bedrock_sizeclass_payload)], narrowed := true }
def TxErrorsUptoSaid : Prop := txErrorsUptoRow.holds Tryz.pinned (OpenSpec.upto txErrorsSpec)

/-- 'bedrocklaw24.TxEnds', WHERE WHAT IT READS IS OF BULK AT MOST 1048576: true; the input reads as it did. -/
def txEndsUptoRow : OpenClaim := { program := "ytklpeghhgoeeiaagreatdoor", sum := "b44a979f67b3c639194b397204ce210a28aa33b3b3a9931cedd265008d7a6cfd", func := "bedrock/bedrocklaw24.TxEnds", spec := "txEnds", inPlace := ["maps.clone"], unfollowed := true, recurses := true, named := ["bedrock/crc.nibbles", "bedrock/sizeclass.payload"], apart := false, laid := [("bedrock/crc.nibbles", laid_bedrock_crc_nibbles), ("bedrock/sizeclass.payload", laid_bedrock_sizeclass_payload)], narrowed := true }
def TxEndsUptoSaid : Prop := txEndsUptoRow.holds Tryz.pinned (OpenSpec.upto txEndsSpec)

/-- 'bedrocklaw24.TxAtomic', WHERE WHAT IT READS IS OF BULK AT MOST 1048576: true; the input reads as it did. -/
def txAtomicUptoRow : OpenClaim := { program := "ytklpeghhgoeeiaagreatdoor", sum := "b44a979f67b3c639194b397204ce210a28aa33b3b3a9931cedd265008d7a6cfd", func := "bedrock/bedrocklaw24.TxAtomic", spec := "txAtomic", inPlace := ["maps.clone"], unfollowed := true, recurses := true, named := ["bedrock/crc.nibbles", "bedrock/sizeclass.payload"], apart := false, laid := [("bedrock/crc.nibbles", laid_bedrock_crc_nibbles), ("bedrock/sizeclass.payload", laid_bedrock_sizeclass_payload)], narrowed := true }
def TxAtomicUptoSaid : Prop := txAtomicUptoRow.holds Tryz.pinned (OpenSpec.upto txAtomicSpec)

/-- 'bedrocklaw24.TxPlays', WHERE WHAT IT READS IS OF BULK AT MOST 1048576: true; the input reads as it did. -/
def txPlaysUptoRow : OpenClaim := { program := "ytklpeghhgoeeiaagreatdoor", sum := "b44a979f67b3c639194b397204ce210a28aa33b3b3a9931cedd265008d7a6cfd", func := "bedrock/bedrocklaw24.TxPlays", spec := "txPlays", inPlace := ["maps.clone"], unfollowed := true, recurses := true, named := ["bedrock/crc.nibbles", "bedrock/sizeclass.payload"], apart := false, laid := [("bedrock/crc.nibbles", laid_bedrock_crc_nibbles), ("bedrock/sizeclass.payload", laid_bedrock_sizeclass_payload)], narrowed := true }
def TxPlaysUptoSaid : Prop := txPlaysUptoRow.holds Tryz.pinned (OpenSpec.upto txPlaysSpec)

end Rows
end Go.Proofs.YtklpeghhgoeeiaaGreatDoor
