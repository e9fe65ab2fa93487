/-
  NARROWER THAN 'FOR EVERY INPUT', by the rows' own cells (each row's printed sentence says how): TxAtomic: laid · TxPlays: laid · BlobInTx: laid · SnapshotAtomic: laid · SnapshotInTx: laid.
  DERIVED. THE GIVEN ROWS OF THIS SEAT. 5 by the template 'for every input the law returns true; each argument reads behind the call as it read before'; 0 by the template 'total and deterministic' (their statements: YtmhbokcccjmfgaaGreatDoorTotals.lean).
  GIVEN WITH THE SEED: the statements are not yours to turn. If you find one false, say at which input.
  Laid BY PROGRAM, IN A SANDBOX (cutbox-rows.mjs): the forced cells as the released guide's own fill.sh prints them over the translation 82ed28d9443f7bc2… (all of the seat's roots in one cut). By AI agents, Wed Nov 11 2026. No macro, syntax, notation, axiom, sorry.
-/
import Derived.Test.YtmhbokcccjmfgaaGreatDoorChecked
import GoSem.Claim
import GoSem.ClaimJoined
import GoSem.ClaimMapViews
import Derived.JoinedTies
import Derived.KernelRfl
namespace Go.Proofs.YtmhbokcccjmfgaaGreatDoor
/- THE CELL 'sum', in the pinned program and in every row, IS THE sha256 OF THE DUMP (.gsa) THAT YtmhbokcccjmfgaaGreatDoorProg.lean LOADS. Nothing in Lean hashes anything: it is a label: what it is worth is what the hold of that sum in a sandbox is worth. -/
noncomputable def Tryz.pinned : Pinned := { name := "ytmhbokcccjmfgaagreatdoor", sum := "82ed28d9443f7bc2cd293dd04019a21b2ff548d7380f99219389181f6b1c3a01", checked := Tryz.checked }
namespace Rows
def none {H : Type} : Left H := { results := [], args := [] }

/- WHAT THE LISTED PACKAGE-LEVEL VARIABLES READ AS WHEN THE CALL BEGINS. Each datum BY PROGRAM (the guide's laid-datum.mjs) off the statement by which the dump's own 'gosem.cut.vars' lays the variable. In a bare row this is a premise. The card (YtmhbokcccjmfgaaGreatDoorCards.lean) ties it to the program's text. -/
def laid_bedrock_crc_nibbles {H : Type} : DataW H := .agg [.lit (.int .u32 0), .lit (.int .u32 274646895), .lit (.int .u32 549293790), .lit (.int .u32 820201905), .lit (.int .u32 1098587580), .lit (.int .u32 1361435347), .lit (.int .u32 1640403810), .lit (.int .u32 1905808397), .lit (.int .u32 2197175160), .lit (.int .u32 2460548119), .lit (.int .u32 2722870694), .lit (.int .u32 2987750089), .lit (.int .u32 3280807620), .lit (.int .u32 3553878443), .lit (.int .u32 3811616794), .lit (.int .u32 4084100981)]
def laid_bedrock_sizeclass_payload {H : Type} : DataW H := .agg [.lit (.int .i64 3), .lit (.int .i64 7), .lit (.int .i64 15), .lit (.int .i64 31), .lit (.int .i64 60)]

/-- 'bedrocklaw24.TxAtomic': WHATEVER THE INPUT: true; the input reads as it did. -/
def txAtomicSpec : ChangeSpec := { name := "txAtomic", fn := fun _ => fun
  | [d1, d2, d3] => { results := [.lit (.bool true)], args := [d1, d2, d3] }
  | _ => none }
def txAtomicRow : OpenClaim := { program := "ytmhbokcccjmfgaagreatdoor", sum := "82ed28d9443f7bc2cd293dd04019a21b2ff548d7380f99219389181f6b1c3a01", func := "bedrock/bedrocklaw24.TxAtomic", spec := "txAtomic", inPlace := ["maps.clone"], unfollowed := true, recurses := true, named := ["bedrock/crc.nibbles", "bedrock/sizeclass.payload"], apart := false, laid := [("bedrock/crc.nibbles", laid_bedrock_crc_nibbles), ("bedrock/sizeclass.payload", laid_bedrock_sizeclass_payload)] }
def TxAtomicSaid : Prop := txAtomicRow.holds Tryz.pinned (OpenSpec.ofChange txAtomicSpec)

/-- ITS FALSE NEIGHBOUR: 'it returns false'. Refute it at one input. -/
def txAtomicWrong : ChangeSpec := { name := "txAtomic", fn := fun _ => fun
  | [d1, d2, d3] => { results := [.lit (.bool false)], args := [d1, d2, d3] }
  | _ => none }
def TxAtomicWrongFalsely : Prop := txAtomicRow.holds Tryz.pinned (OpenSpec.ofChange txAtomicWrong)

/-- 'bedrocklaw24.TxPlays': WHATEVER THE INPUT: true; the input reads as it did. -/
def txPlaysSpec : ChangeSpec := { name := "txPlays", fn := fun _ => fun
  | [d1, d2] => { results := [.lit (.bool true)], args := [d1, d2] }
  | _ => none }
def txPlaysRow : OpenClaim := { program := "ytmhbokcccjmfgaagreatdoor", sum := "82ed28d9443f7bc2cd293dd04019a21b2ff548d7380f99219389181f6b1c3a01", func := "bedrock/bedrocklaw24.TxPlays", spec := "txPlays", inPlace := ["maps.clone"], unfollowed := true, recurses := true, named := ["bedrock/crc.nibbles", "bedrock/sizeclass.payload"], apart := false, laid := [("bedrock/crc.nibbles", laid_bedrock_crc_nibbles), ("bedrock/sizeclass.payload", laid_bedrock_sizeclass_payload)] }
def TxPlaysSaid : Prop := txPlaysRow.holds Tryz.pinned (OpenSpec.ofChange txPlaysSpec)

/-- ITS FALSE NEIGHBOUR: 'it returns false'. Refute it at one input. -/
def txPlaysWrong : ChangeSpec := { name := "txPlays", fn := fun _ => fun
  | [d1, d2] => { results := [.lit (.bool false)], args := [d1, d2] }
  | _ => none }
def TxPlaysWrongFalsely : Prop := txPlaysRow.holds Tryz.pinned (OpenSpec.ofChange txPlaysWrong)

/-- 'bedrocklaw29.BlobInTx': WHATEVER THE INPUT: true; the input reads as it did. -/
def blobInTxSpec : ChangeSpec := { name := "blobInTx", fn := fun _ => fun
  | [d1, d2, d3] => { results := [.lit (.bool true)], args := [d1, d2, d3] }
  | _ => none }
def blobInTxRow : OpenClaim := { program := "ytmhbokcccjmfgaagreatdoor", sum := "82ed28d9443f7bc2cd293dd04019a21b2ff548d7380f99219389181f6b1c3a01", func := "bedrock/bedrocklaw29.BlobInTx", spec := "blobInTx", unfollowed := true, recurses := true, named := ["bedrock/crc.nibbles", "bedrock/sizeclass.payload"], apart := false, laid := [("bedrock/crc.nibbles", laid_bedrock_crc_nibbles), ("bedrock/sizeclass.payload", laid_bedrock_sizeclass_payload)] }
def BlobInTxSaid : Prop := blobInTxRow.holds Tryz.pinned (OpenSpec.ofChange blobInTxSpec)

/-- ITS FALSE NEIGHBOUR: 'it returns false'. Refute it at one input. -/
def blobInTxWrong : ChangeSpec := { name := "blobInTx", fn := fun _ => fun
  | [d1, d2, d3] => { results := [.lit (.bool false)], args := [d1, d2, d3] }
  | _ => none }
def BlobInTxWrongFalsely : Prop := blobInTxRow.holds Tryz.pinned (OpenSpec.ofChange blobInTxWrong)

/-- 'bedrocklaw38.SnapshotAtomic': WHATEVER THE INPUT: true; the input reads as it did. -/
def snapshotAtomicSpec : ChangeSpec := { name := "snapshotAtomic", fn := fun _ => fun
  | [d1, d2, d3] => { results := [.lit (.bool true)], args := [d1, d2, d3] }
  | _ => none }
def snapshotAtomicRow : OpenClaim := { program := "ytmhbokcccjmfgaagreatdoor", sum := "82ed28d9443f7bc2cd293dd04019a21b2ff548d7380f99219389181f6b1c3a01", func := "bedrock/bedrocklaw38.SnapshotAtomic", spec := "snapshotAtomic", inPlace := ["internal/bytealg.abigen_runtime_cmpstring"], unfollowed := true, recurses := true, named := ["bedrock/crc.nibbles", "bedrock/sizeclass.payload"], apart := false, laid := [("bedrock/crc.nibbles", laid_bedrock_crc_nibbles), ("bedrock/sizeclass.payload", laid_bedrock_sizeclass_payload)] }
def SnapshotAtomicSaid : Prop := snapshotAtomicRow.holds Tryz.pinned (OpenSpec.ofChange snapshotAtomicSpec)

/-- ITS FALSE NEIGHBOUR: 'it returns false'. Refute it at one input. -/
def snapshotAtomicWrong : ChangeSpec := { name := "snapshotAtomic", fn := fun _ => fun
  | [d1, d2, d3] => { results := [.lit (.bool false)], args := [d1, d2, d3] }
  | _ => none }
def SnapshotAtomicWrongFalsely : Prop := snapshotAtomicRow.holds Tryz.pinned (OpenSpec.ofChange snapshotAtomicWrong)

/-- 'bedrocklaw38.SnapshotInTx': WHATEVER THE INPUT: true; the input reads as it did. -/
def snapshotInTxSpec : ChangeSpec := { name := "snapshotInTx", fn := fun _ => fun
  | [d1, d2, d3] => { results := [.lit (.bool true)], args := [d1, d2, d3] }
  | _ => none }
def snapshotInTxRow : OpenClaim := { program := "ytmhbokcccjmfgaagreatdoor", sum := "82ed28d9443f7bc2cd293dd04019a21b2ff548d7380f99219389181f6b1c3a01", func := "bedrock/bedrocklaw38.SnapshotInTx", spec := "snapshotInTx", inPlace := ["internal/bytealg.abigen_runtime_cmpstring"], unfollowed := true, recurses := true, named := ["bedrock/crc.nibbles", "bedrock/sizeclass.payload"], apart := false, laid := [("bedrock/crc.nibbles", laid_bedrock_crc_nibbles), ("bedrock/sizeclass.payload", laid_bedrock_sizeclass_payload)] }
def SnapshotInTxSaid : Prop := snapshotInTxRow.holds Tryz.pinned (OpenSpec.ofChange snapshotInTxSpec)

/-- ITS FALSE NEIGHBOUR: 'it returns false'. Refute it at one input. -/
def snapshotInTxWrong : ChangeSpec := { name := "snapshotInTx", fn := fun _ => fun
  | [d1, d2, d3] => { results := [.lit (.bool false)], args := [d1, d2, d3] }
  | _ => none }
def SnapshotInTxWrongFalsely : Prop := snapshotInTxRow.holds Tryz.pinned (OpenSpec.ofChange snapshotInTxWrong)

/- THE SECOND FORM. 'bulk': how many values and letters a reading holds, each counted each time it is reached (what is shared counts as often as it is met; a slice's spare places count too). A statement '..UptoSaid' is the law's where the arguments, and the package variables that the reading takes, are together of bulk at most 1048576: NARROWER than '..Said'. Prove '..Said' where nothing that the law and all that it calls make is longer than what came in: it says more and counts as full. Else prove '..UptoSaid'. A law counts once. -/
mutual
def uptoBulk {H : Type} : DataW H → Nat
  | .lit (.string bytes) => bytes.length + 1
  | .lit _ => 1
  | .nil => 1
  | .ptr d => uptoBulk d + 1
  | .slice elems spare => uptoBulkAll elems + uptoBulkAll spare + 1
  | .agg parts => uptoBulkAll parts + 1
  | .iface _ d => uptoBulk d + 1
  | .map entries => uptoBulkEntries entries + 1
  | .held _ => 1
def uptoBulkAll {H : Type} : List (DataW H) → Nat
  | [] => 0
  | d :: r => uptoBulk d + uptoBulkAll r
def uptoBulkEntries {H : Type} : List (Lit × DataW H) → Nat
  | [] => 0
  | x :: r => uptoBulkEntry x + uptoBulkEntries r
def uptoBulkEntry {H : Type} : Lit × DataW H → Nat
  | (.string bytes, d) => bytes.length + uptoBulk d + 1
  | (_, d) => uptoBulk d + 1
 end
def uptoSmall : (H : Type) → List (DataW H) → Bool := fun _ ds => decide (uptoBulkAll ds ≤ 1048576)
def OpenSpec.upto (s : _root_.Go.ChangeSpec) : _root_.Go.OpenSpec := { _root_.Go.OpenSpec.ofChange s with cond := some uptoSmall }

/-- 'bedrocklaw24.TxAtomic', WHERE WHAT IT READS IS OF BULK AT MOST 1048576: true; the input reads as it did. -/
def txAtomicUptoRow : OpenClaim := { program := "ytmhbokcccjmfgaagreatdoor", sum := "82ed28d9443f7bc2cd293dd04019a21b2ff548d7380f99219389181f6b1c3a01", func := "bedrock/bedrocklaw24.TxAtomic", spec := "txAtomic", inPlace := ["maps.clone"], unfollowed := true, recurses := true, named := ["bedrock/crc.nibbles", "bedrock/sizeclass.payload"], apart := false, laid := [("bedrock/crc.nibbles", laid_bedrock_crc_nibbles), ("bedrock/sizeclass.payload", laid_bedrock_sizeclass_payload)], narrowed := true }
def TxAtomicUptoSaid : Prop := txAtomicUptoRow.holds Tryz.pinned (OpenSpec.upto txAtomicSpec)

/-- 'bedrocklaw24.TxPlays', WHERE WHAT IT READS IS OF BULK AT MOST 1048576: true; the input reads as it did. -/
def txPlaysUptoRow : OpenClaim := { program := "ytmhbokcccjmfgaagreatdoor", sum := "82ed28d9443f7bc2cd293dd04019a21b2ff548d7380f99219389181f6b1c3a01", func := "bedrock/bedrocklaw24.TxPlays", spec := "txPlays", inPlace := ["maps.clone"], unfollowed := true, recurses := true, named := ["bedrock/crc.nibbles", "bedrock/sizeclass.payload"], apart := false, laid := [("bedrock/crc.nibbles", laid_bedrock_crc_nibbles), ("bedrock/sizeclass.payload", laid_bedrock_sizeclass_payload)], narrowed := true }
def TxPlaysUptoSaid : Prop := txPlaysUptoRow.holds Tryz.pinned (OpenSpec.upto txPlaysSpec)

/-- 'bedrocklaw29.BlobInTx', WHERE WHAT IT READS IS OF BULK AT MOST 1048576: true; the input reads as it did. -/
def blobInTxUptoRow : OpenClaim := { program := "ytmhbokcccjmfgaagreatdoor", sum := "82ed28d9443f7bc2cd293dd04019a21b2ff548d7380f99219389181f6b1c3a01", func := "bedrock/bedrocklaw29.BlobInTx", spec := "blobInTx", unfollowed := true, recurses := true, named := ["bedrock/crc.nibbles", "bedrock/sizeclass.payload"], apart := false, laid := [("bedrock/crc.nibbles", laid_bedrock_crc_nibbles), ("bedrock/sizeclass.payload", laid_bedrock_sizeclass_payload)], narrowed := true }
def BlobInTxUptoSaid : Prop := blobInTxUptoRow.holds Tryz.pinned (OpenSpec.upto blobInTxSpec)

/-- 'bedrocklaw38.SnapshotAtomic', WHERE WHAT IT READS IS OF BULK AT MOST 1048576: true; the input reads as it did. -/
def snapshotAtomicUptoRow : OpenClaim := { program := "ytmhbokcccjmfgaagreatdoor", sum := "82ed28d9443f7bc2cd293dd04019a21b2ff548d7380f99219389181f6b1c3a01", func := "bedrock/bedrocklaw38.SnapshotAtomic", spec := "snapshotAtomic", inPlace := ["internal/bytealg.abigen_runtime_cmpstring"], unfollowed := true, recurses := true, named := ["bedrock/crc.nibbles", "bedrock/sizeclass.payload"], apart := false, laid := [("bedrock/crc.nibbles", laid_bedrock_crc_nibbles), ("bedrock/sizeclass.payload", laid_bedrock_sizeclass_payload)], narrowed := true }
def SnapshotAtomicUptoSaid : Prop := snapshotAtomicUptoRow.holds Tryz.pinned (OpenSpec.upto snapshotAtomicSpec)

/-- 'bedrocklaw38.SnapshotInTx', WHERE WHAT IT READS IS OF BULK AT MOST 1048576: true; the input reads as it did. -/
def snapshotInTxUptoRow : OpenClaim := { program := "ytmhbokcccjmfgaagreatdoor", sum := "82ed28d9443f7bc2cd293dd04019a21b2ff548d7380f99219389181f6b1c3a01", func := "bedrock/bedrocklaw38.SnapshotInTx", spec := "snapshotInTx", inPlace := ["internal/bytealg.abigen_runtime_cmpstring"], unfollowed := true, recurses := true, named := ["bedrock/crc.nibbles", "bedrock/sizeclass.payload"], apart := false, laid := [("bedrock/crc.nibbles", laid_bedrock_crc_nibbles), ("bedrock/sizeclass.payload", laid_bedrock_sizeclass_payload)], narrowed := true }
def SnapshotInTxUptoSaid : Prop := snapshotInTxUptoRow.holds Tryz.pinned (OpenSpec.upto snapshotInTxSpec)

end Rows
end Go.Proofs.YtmhbokcccjmfgaaGreatDoor
