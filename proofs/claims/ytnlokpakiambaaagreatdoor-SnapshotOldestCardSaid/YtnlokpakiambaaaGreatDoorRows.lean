/-
  NARROWER THAN 'FOR EVERY INPUT', by the rows' own cells (each row's printed sentence says how): VersionAt: laid · VersionBlocks: laid · VersionSpoilt: laid · VersionRefuses: laid · SnapshotTop: laid · SnapshotOldest: laid · SnapshotSpoilt: laid · SnapshotRefuses: laid.
  DERIVED. THE GIVEN ROWS OF THIS SEAT. 8 by the template 'for every input the law returns true; each argument reads behind the call as it read before'; 0 by the template 'total and deterministic' (their statements: YtnlokpakiambaaaGreatDoorTotals.lean).
  GIVEN WITH THE SEED: the statements are not yours to turn. If you find one false, say at which input.
  Laid BY PROGRAM, IN A SANDBOX (cutbox-rows.mjs): the forced cells as the released guide's own fill.sh prints them over the translation 5fb187bf8b9711a1… (all of the seat's roots in one cut). By AI agents, Wed Nov 11 2026. No macro, syntax, notation, axiom, sorry.
-/
import Derived.Test.YtnlokpakiambaaaGreatDoorChecked
import GoSem.Claim
import GoSem.ClaimJoined
import GoSem.ClaimMapViews
import Derived.JoinedTies
import Derived.KernelRfl
namespace Go.Proofs.YtnlokpakiambaaaGreatDoor
/- THE CELL 'sum', in the pinned program and in every row, IS THE sha256 OF THE DUMP (.gsa) THAT YtnlokpakiambaaaGreatDoorProg.lean LOADS. Nothing in Lean hashes anything: it is a label: what it is worth is what the hold of that sum in a sandbox is worth. -/
noncomputable def Tryz.pinned : Pinned := { name := "ytnlokpakiambaaagreatdoor", sum := "5fb187bf8b9711a16b98e74d60c6a2e0dc93f9df0a40c1384df2d1b2c621b18d", checked := Tryz.checked }
namespace Rows
def none {H : Type} : Left H := { results := [], args := [] }

/- WHAT THE LISTED PACKAGE-LEVEL VARIABLES READ AS WHEN THE CALL BEGINS. Each datum BY PROGRAM (the guide's laid-datum.mjs) off the statement by which the dump's own 'gosem.cut.vars' lays the variable. In a bare row this is a premise. The card (YtnlokpakiambaaaGreatDoorCards.lean) ties it to the program's text. -/
def laid_bedrock_crc_nibbles {H : Type} : DataW H := .agg [.lit (.int .u32 0), .lit (.int .u32 274646895), .lit (.int .u32 549293790), .lit (.int .u32 820201905), .lit (.int .u32 1098587580), .lit (.int .u32 1361435347), .lit (.int .u32 1640403810), .lit (.int .u32 1905808397), .lit (.int .u32 2197175160), .lit (.int .u32 2460548119), .lit (.int .u32 2722870694), .lit (.int .u32 2987750089), .lit (.int .u32 3280807620), .lit (.int .u32 3553878443), .lit (.int .u32 3811616794), .lit (.int .u32 4084100981)]
def laid_bedrock_sizeclass_payload {H : Type} : DataW H := .agg [.lit (.int .i64 3), .lit (.int .i64 7), .lit (.int .i64 15), .lit (.int .i64 31), .lit (.int .i64 60)]

/-- 'bedrocklaw37.VersionAt': WHATEVER THE INPUT: true; the input reads as it did. -/
def versionAtSpec : ChangeSpec := { name := "versionAt", fn := fun _ => fun
  | [d1, d2] => { results := [.lit (.bool true)], args := [d1, d2] }
  | _ => none }
def versionAtRow : OpenClaim := { program := "ytnlokpakiambaaagreatdoor", sum := "5fb187bf8b9711a16b98e74d60c6a2e0dc93f9df0a40c1384df2d1b2c621b18d", func := "bedrock/bedrocklaw37.VersionAt", spec := "versionAt", unfollowed := true, recurses := true, named := ["bedrock/crc.nibbles", "bedrock/sizeclass.payload"], apart := false, laid := [("bedrock/crc.nibbles", laid_bedrock_crc_nibbles), ("bedrock/sizeclass.payload", laid_bedrock_sizeclass_payload)] }
def VersionAtSaid : Prop := versionAtRow.holds Tryz.pinned (OpenSpec.ofChange versionAtSpec)

/-- ITS FALSE NEIGHBOUR: 'it returns false'. Refute it at one input. -/
def versionAtWrong : ChangeSpec := { name := "versionAt", fn := fun _ => fun
  | [d1, d2] => { results := [.lit (.bool false)], args := [d1, d2] }
  | _ => none }
def VersionAtWrongFalsely : Prop := versionAtRow.holds Tryz.pinned (OpenSpec.ofChange versionAtWrong)

/-- 'bedrocklaw37.VersionBlocks': WHATEVER THE INPUT: true; the input reads as it did. -/
def versionBlocksSpec : ChangeSpec := { name := "versionBlocks", fn := fun _ => fun
  | [d] => { results := [.lit (.bool true)], args := [d] }
  | _ => none }
def versionBlocksRow : OpenClaim := { program := "ytnlokpakiambaaagreatdoor", sum := "5fb187bf8b9711a16b98e74d60c6a2e0dc93f9df0a40c1384df2d1b2c621b18d", func := "bedrock/bedrocklaw37.VersionBlocks", spec := "versionBlocks", unfollowed := true, recurses := true, named := ["bedrock/crc.nibbles", "bedrock/sizeclass.payload"], apart := false, laid := [("bedrock/crc.nibbles", laid_bedrock_crc_nibbles), ("bedrock/sizeclass.payload", laid_bedrock_sizeclass_payload)] }
def VersionBlocksSaid : Prop := versionBlocksRow.holds Tryz.pinned (OpenSpec.ofChange versionBlocksSpec)

/-- ITS FALSE NEIGHBOUR: 'it returns false'. Refute it at one input. -/
def versionBlocksWrong : ChangeSpec := { name := "versionBlocks", fn := fun _ => fun
  | [d] => { results := [.lit (.bool false)], args := [d] }
  | _ => none }
def VersionBlocksWrongFalsely : Prop := versionBlocksRow.holds Tryz.pinned (OpenSpec.ofChange versionBlocksWrong)

/-- 'bedrocklaw37.VersionSpoilt': WHATEVER THE INPUT: true; the input reads as it did. -/
def versionSpoiltSpec : ChangeSpec := { name := "versionSpoilt", fn := fun _ => fun
  | [d1, d2, d3] => { results := [.lit (.bool true)], args := [d1, d2, d3] }
  | _ => none }
def versionSpoiltRow : OpenClaim := { program := "ytnlokpakiambaaagreatdoor", sum := "5fb187bf8b9711a16b98e74d60c6a2e0dc93f9df0a40c1384df2d1b2c621b18d", func := "bedrock/bedrocklaw37.VersionSpoilt", spec := "versionSpoilt", unfollowed := true, recurses := true, named := ["bedrock/crc.nibbles", "bedrock/sizeclass.payload"], apart := false, laid := [("bedrock/crc.nibbles", laid_bedrock_crc_nibbles), ("bedrock/sizeclass.payload", laid_bedrock_sizeclass_payload)] }
def VersionSpoiltSaid : Prop := versionSpoiltRow.holds Tryz.pinned (OpenSpec.ofChange versionSpoiltSpec)

/-- ITS FALSE NEIGHBOUR: 'it returns false'. Refute it at one input. -/
def versionSpoiltWrong : ChangeSpec := { name := "versionSpoilt", fn := fun _ => fun
  | [d1, d2, d3] => { results := [.lit (.bool false)], args := [d1, d2, d3] }
  | _ => none }
def VersionSpoiltWrongFalsely : Prop := versionSpoiltRow.holds Tryz.pinned (OpenSpec.ofChange versionSpoiltWrong)

/-- 'bedrocklaw37.VersionRefuses': WHATEVER THE INPUT: true; the input reads as it did. -/
def versionRefusesSpec : ChangeSpec := { name := "versionRefuses", fn := fun _ => fun
  | [d1, d2] => { results := [.lit (.bool true)], args := [d1, d2] }
  | _ => none }
def versionRefusesRow : OpenClaim := { program := "ytnlokpakiambaaagreatdoor", sum := "5fb187bf8b9711a16b98e74d60c6a2e0dc93f9df0a40c1384df2d1b2c621b18d", func := "bedrock/bedrocklaw37.VersionRefuses", spec := "versionRefuses", unfollowed := true, recurses := true, named := ["bedrock/crc.nibbles", "bedrock/sizeclass.payload"], apart := false, laid := [("bedrock/crc.nibbles", laid_bedrock_crc_nibbles), ("bedrock/sizeclass.payload", laid_bedrock_sizeclass_payload)] }
def VersionRefusesSaid : Prop := versionRefusesRow.holds Tryz.pinned (OpenSpec.ofChange versionRefusesSpec)

/-- ITS FALSE NEIGHBOUR: 'it returns false'. Refute it at one input. -/
def versionRefusesWrong : ChangeSpec := { name := "versionRefuses", fn := fun _ => fun
  | [d1, d2] => { results := [.lit (.bool false)], args := [d1, d2] }
  | _ => none }
def VersionRefusesWrongFalsely : Prop := versionRefusesRow.holds Tryz.pinned (OpenSpec.ofChange versionRefusesWrong)

/-- 'bedrocklaw38.SnapshotTop': WHATEVER THE INPUT: true; the input reads as it did. -/
def snapshotTopSpec : ChangeSpec := { name := "snapshotTop", fn := fun _ => fun
  | [d1, d2] => { results := [.lit (.bool true)], args := [d1, d2] }
  | _ => none }
def snapshotTopRow : OpenClaim := { program := "ytnlokpakiambaaagreatdoor", sum := "5fb187bf8b9711a16b98e74d60c6a2e0dc93f9df0a40c1384df2d1b2c621b18d", func := "bedrock/bedrocklaw38.SnapshotTop", spec := "snapshotTop", inPlace := ["internal/bytealg.abigen_runtime_cmpstring"], unfollowed := true, recurses := true, named := ["bedrock/crc.nibbles", "bedrock/sizeclass.payload"], apart := false, laid := [("bedrock/crc.nibbles", laid_bedrock_crc_nibbles), ("bedrock/sizeclass.payload", laid_bedrock_sizeclass_payload)] }
def SnapshotTopSaid : Prop := snapshotTopRow.holds Tryz.pinned (OpenSpec.ofChange snapshotTopSpec)

/-- ITS FALSE NEIGHBOUR: 'it returns false'. Refute it at one input. -/
def snapshotTopWrong : ChangeSpec := { name := "snapshotTop", fn := fun _ => fun
  | [d1, d2] => { results := [.lit (.bool false)], args := [d1, d2] }
  | _ => none }
def SnapshotTopWrongFalsely : Prop := snapshotTopRow.holds Tryz.pinned (OpenSpec.ofChange snapshotTopWrong)

/-- 'bedrocklaw38.SnapshotOldest': WHATEVER THE INPUT: true; the input reads as it did. -/
def snapshotOldestSpec : ChangeSpec := { name := "snapshotOldest", fn := fun _ => fun
  | [d] => { results := [.lit (.bool true)], args := [d] }
  | _ => none }
def snapshotOldestRow : OpenClaim := { program := "ytnlokpakiambaaagreatdoor", sum := "5fb187bf8b9711a16b98e74d60c6a2e0dc93f9df0a40c1384df2d1b2c621b18d", func := "bedrock/bedrocklaw38.SnapshotOldest", spec := "snapshotOldest", inPlace := ["internal/bytealg.abigen_runtime_cmpstring"], unfollowed := true, recurses := true, named := ["bedrock/crc.nibbles", "bedrock/sizeclass.payload"], apart := false, laid := [("bedrock/crc.nibbles", laid_bedrock_crc_nibbles), ("bedrock/sizeclass.payload", laid_bedrock_sizeclass_payload)] }
def SnapshotOldestSaid : Prop := snapshotOldestRow.holds Tryz.pinned (OpenSpec.ofChange snapshotOldestSpec)

/-- ITS FALSE NEIGHBOUR: 'it returns false'. Refute it at one input. -/
def snapshotOldestWrong : ChangeSpec := { name := "snapshotOldest", fn := fun _ => fun
  | [d] => { results := [.lit (.bool false)], args := [d] }
  | _ => none }
def SnapshotOldestWrongFalsely : Prop := snapshotOldestRow.holds Tryz.pinned (OpenSpec.ofChange snapshotOldestWrong)

/-- 'bedrocklaw38.SnapshotSpoilt': WHATEVER THE INPUT: true; the input reads as it did. -/
def snapshotSpoiltSpec : ChangeSpec := { name := "snapshotSpoilt", fn := fun _ => fun
  | [d1, d2, d3] => { results := [.lit (.bool true)], args := [d1, d2, d3] }
  | _ => none }
def snapshotSpoiltRow : OpenClaim := { program := "ytnlokpakiambaaagreatdoor", sum := "5fb187bf8b9711a16b98e74d60c6a2e0dc93f9df0a40c1384df2d1b2c621b18d", func := "bedrock/bedrocklaw38.SnapshotSpoilt", spec := "snapshotSpoilt", inPlace := ["internal/bytealg.abigen_runtime_cmpstring"], unfollowed := true, recurses := true, named := ["bedrock/crc.nibbles", "bedrock/sizeclass.payload"], apart := false, laid := [("bedrock/crc.nibbles", laid_bedrock_crc_nibbles), ("bedrock/sizeclass.payload", laid_bedrock_sizeclass_payload)] }
def SnapshotSpoiltSaid : Prop := snapshotSpoiltRow.holds Tryz.pinned (OpenSpec.ofChange snapshotSpoiltSpec)

/-- ITS FALSE NEIGHBOUR: 'it returns false'. Refute it at one input. -/
def snapshotSpoiltWrong : ChangeSpec := { name := "snapshotSpoilt", fn := fun _ => fun
  | [d1, d2, d3] => { results := [.lit (.bool false)], args := [d1, d2, d3] }
  | _ => none }
def SnapshotSpoiltWrongFalsely : Prop := snapshotSpoiltRow.holds Tryz.pinned (OpenSpec.ofChange snapshotSpoiltWrong)

/-- 'bedrocklaw38.SnapshotRefuses': WHATEVER THE INPUT: true; the input reads as it did. -/
def snapshotRefusesSpec : ChangeSpec := { name := "snapshotRefuses", fn := fun _ => fun
  | [d1, d2] => { results := [.lit (.bool true)], args := [d1, d2] }
  | _ => none }
def snapshotRefusesRow : OpenClaim := { program := "ytnlokpakiambaaagreatdoor", sum := "5fb187bf8b9711a16b98e74d60c6a2e0dc93f9df0a40c1384df2d1b2c621b18d", func := "bedrock/bedrocklaw38.SnapshotRefuses", spec := "snapshotRefuses", inPlace := ["internal/bytealg.abigen_runtime_cmpstring"], unfollowed := true, recurses := true, named := ["bedrock/crc.nibbles", "bedrock/sizeclass.payload"], apart := false, laid := [("bedrock/crc.nibbles", laid_bedrock_crc_nibbles), ("bedrock/sizeclass.payload", laid_bedrock_sizeclass_payload)] }
def SnapshotRefusesSaid : Prop := snapshotRefusesRow.holds Tryz.pinned (OpenSpec.ofChange snapshotRefusesSpec)

/-- ITS FALSE NEIGHBOUR: 'it returns false'. Refute it at one input. -/
def snapshotRefusesWrong : ChangeSpec := { name := "snapshotRefuses", fn := fun _ => fun
  | [d1, d2] => { results := [.lit (.bool false)], args := [d1, d2] }
  | _ => none }
def SnapshotRefusesWrongFalsely : Prop := snapshotRefusesRow.holds Tryz.pinned (OpenSpec.ofChange snapshotRefusesWrong)

/- THE SECOND FORM. 'bulk': how many values and letters a reading holds, each counted each time it is reached (what is shared counts as often as it is met; a slice's spare places count too). A statement '..UptoSaid' is the law's where the arguments, and the package variables that the reading takes, are together of bulk at most 1048576: NARROWER than '..Said'. Prove '..Said' where nothing that the law and all that it calls make is longer than what came in: it says more and counts as full. Else prove '..UptoSaid'. A law counts once. -/
mutual
def uptoBulk {H : Type} : DataW H → Nat
  | .lit (.string bytes) => bytes.length + 1
  | .lit _ => 1
  | .nil => 1
  | .ptr d => uptoBulk d + 1
  | .slice elems spare => uptoBulkAll elems + uptoBulkAll spare + 1
  | .agg parts => uptoBulkAll parts + 1
  | .iface _ d => uptoBulk d + 1
  | .map entries => uptoBulkEntries entries + 1
  | .held _ => 1
def uptoBulkAll {H : Type} : List (DataW H) → Nat
  | [] => 0
  | d :: r => uptoBulk d + uptoBulkAll r
def uptoBulkEntries {H : Type} : List (Lit × DataW H) → Nat
  | [] => 0
  | x :: r => uptoBulkEntry x + uptoBulkEntries r
def uptoBulkEntry {H : Type} : Lit × DataW H → Nat
  | (.string bytes, d) => bytes.length + uptoBulk d + 1
  | (_, d) => uptoBulk d + 1
 end
def uptoSmall : (H : Type) → List (DataW H) → Bool := fun _ ds => decide (uptoBulkAll ds ≤ 1048576)
def OpenSpec.upto (s : _root_.Go.ChangeSpec) : _root_.Go.OpenSpec := { _root_.Go.OpenSpec.ofChange s with cond := some uptoSmall }

/-- 'bedrocklaw37.VersionAt', WHERE WHAT IT READS IS OF BULK AT MOST 1048576: true; the input reads as it did. -/
def versionAtUptoRow : OpenClaim := { program := "ytnlokpakiambaaagreatdoor", sum := "5fb187bf8b9711a16b98e74d60c6a2e0dc93f9df0a40c1384df2d1b2c621b18d", func := "bedrock/bedrocklaw37.VersionAt", spec := "versionAt", unfollowed := true, recurses := true, named := ["bedrock/crc.nibbles", "bedrock/sizeclass.payload"], apart := false, laid := [("bedrock/crc.nibbles", laid_bedrock_crc_nibbles), ("bedrock/sizeclass.payload", laid_bedrock_sizeclass_payload)], narrowed := true }
def VersionAtUptoSaid : Prop := versionAtUptoRow.holds Tryz.pinned (OpenSpec.upto versionAtSpec)

/-- 'bedrocklaw37.VersionBlocks', WHERE WHAT IT READS IS OF BULK AT MOST 1048576: true; the input reads as it did. -/
def versionBlocksUptoRow : OpenClaim := { program := "ytnlokpakiambaaagreatdoor", sum := "5fb187bf8b9711a16b98e74d60c6a2e0dc93f9df0a40c1384df2d1b2c621b18d", func := "bedrock/bedrocklaw37.VersionBlocks", spec := "versionBlocks", unfollowed := true, recurses := true, named := ["bedrock/crc.nibbles", "bedrock/sizeclass.payload"], apart := false, laid := [("bedrock/crc.nibbles", laid_bedrock_crc_nibbles), ("bedrock/sizeclass.payload", laid_bedrock_sizeclass_payload)], narrowed := true }
def VersionBlocksUptoSaid : Prop := versionBlocksUptoRow.holds Tryz.pinned (OpenSpec.upto versionBlocksSpec)

/-- 'bedrocklaw37.VersionSpoilt', WHERE WHAT IT READS IS OF BULK AT MOST 1048576: true; the input reads as it did. -/
def versionSpoiltUptoRow : OpenClaim := { program := "ytnlokpakiambaaagreatdoor", sum := "5fb187bf8b9711a16b98e74d60c6a2e0dc93f9df0a40c1384df2d1b2c621b18d", func := "bedrock/bedrocklaw37.VersionSpoilt", spec := "versionSpoilt", unfollowed := true, recurses := true, named := ["bedrock/crc.nibbles", "bedrock/sizeclass.payload"], apart := false, laid := [("bedrock/crc.nibbles", laid_bedrock_crc_nibbles), ("bedrock/sizeclass.payload", laid_bedrock_sizeclass_payload)], narrowed := true }
def VersionSpoiltUptoSaid : Prop := versionSpoiltUptoRow.holds Tryz.pinned (OpenSpec.upto versionSpoiltSpec)

/-- 'bedrocklaw37.VersionRefuses', WHERE WHAT IT READS IS OF BULK AT MOST 1048576: true; the input reads as it did. -/
def versionRefusesUptoRow : OpenClaim := { program := "ytnlokpakiambaaagreatdoor", sum := "5fb187bf8b9711a16b98e74d60c6a2e0dc93f9df0a40c1384df2d1b2c621b18d", func := "bedrock/bedrocklaw37.VersionRefuses", spec := "versionRefuses", unfollowed := true, recurses := true, named := ["bedrock/crc.nibbles", "bedrock/sizeclass.payload"], apart := false, laid := [("bedrock/crc.nibbles", laid_bedrock_crc_nibbles), ("bedrock/sizeclass.payload", laid_bedrock_sizeclass_payload)], narrowed := true }
def VersionRefusesUptoSaid : Prop := versionRefusesUptoRow.holds Tryz.pinned (OpenSpec.upto versionRefusesSpec)

/-- 'bedrocklaw38.SnapshotTop', WHERE WHAT IT READS IS OF BULK AT MOST 1048576: true; the input reads as it did. -/
def snapshotTopUptoRow : OpenClaim := { program := "ytnlokpakiambaaagreatdoor", sum := "5fb187bf8b9711a16b98e74d60c6a2e0dc93f9df0a40c1384df2d1b2c621b18d", func := "bedrock/bedrocklaw38.SnapshotTop", spec := "snapshotTop", inPlace := ["internal/bytealg.abigen_runtime_cmpstring"], unfollowed := true, recurses := true, named := ["bedrock/crc.nibbles", "bedrock/sizeclass.payload"], apart := false, laid := [("bedrock/crc.nibbles", laid_bedrock_crc_nibbles), ("bedrock/sizeclass.payload", laid_bedrock_sizeclass_payload)], narrowed := true }
def SnapshotTopUptoSaid : Prop := snapshotTopUptoRow.holds Tryz.pinned (OpenSpec.upto snapshotTopSpec)

/-- 'bedrocklaw38.SnapshotOldest', WHERE WHAT IT READS IS OF BULK AT MOST 1048576: true; the input reads as it did. -/
def snapshotOldestUptoRow : OpenClaim := { program := "ytnlokpakiambaaagreatdoor", sum := "5fb187bf8b9711a16b98e74d60c6a2e0dc93f9df0a40c1384df2d1b2c621b18d", func := "bedrock/bedrocklaw38.SnapshotOldest", spec := "snapshotOldest", inPlace := ["internal/bytealg.abigen_runtime_cmpstring"], unfollowed := true, recurses := true, named := ["bedrock/crc.nibbles", "bedrock/sizeclass.payload"], apart := false, laid := [("bedrock/crc.nibbles", laid_bedrock_crc_nibbles), ("bedrock/sizeclass.payload", laid_bedrock_sizeclass_payload)], narrowed := true }
def SnapshotOldestUptoSaid : Prop := snapshotOldestUptoRow.holds Tryz.pinned (OpenSpec.upto snapshotOldestSpec)

/-- 'bedrocklaw38.SnapshotSpoilt', WHERE WHAT IT READS IS OF BULK AT MOST 1048576: true; the input reads as it did. -/
def snapshotSpoiltUptoRow : OpenClaim := { program := "ytnlokpakiambaaagreatdoor", sum := "5fb187bf8b9711a16b98e74d60c6a2e0dc93f9df0a40c1384df2d1b2c621b18d", func := "bedrock/bedrocklaw38.SnapshotSpoilt", spec := "snapshotSpoilt", inPlace := ["internal/bytealg.abigen_runtime_cmpstring"], unfollowed := true, recurses := true, named := ["bedrock/crc.nibbles", "bedrock/sizeclass.payload"], apart := false, laid := [("bedrock/crc.nibbles", laid_bedrock_crc_nibbles), ("bedrock/sizeclass.payload", laid_bedrock_sizeclass_payload)], narrowed := true }
def SnapshotSpoiltUptoSaid : Prop := snapshotSpoiltUptoRow.holds Tryz.pinned (OpenSpec.upto snapshotSpoiltSpec)

/-- 'bedrocklaw38.SnapshotRefuses', WHERE WHAT IT READS IS OF BULK AT MOST 1048576: true; the input reads as it did. -/
def snapshotRefusesUptoRow : OpenClaim := { program := "ytnlokpakiambaaagreatdoor", sum := "5fb187bf8b9711a16b98e74d60c6a2e0dc93f9df0a40c1384df2d1b2c621b18d", func := "bedrock/bedrocklaw38.SnapshotRefuses", spec := "snapshotRefuses", inPlace := ["internal/bytealg.abigen_runtime_cmpstring"], unfollowed := true, recurses := true, named := ["bedrock/crc.nibbles", "bedrock/sizeclass.payload"], apart := false, laid := [("bedrock/crc.nibbles", laid_bedrock_crc_nibbles), ("bedrock/sizeclass.payload", laid_bedrock_sizeclass_payload)], narrowed := true }
def SnapshotRefusesUptoSaid : Prop := snapshotRefusesUptoRow.holds Tryz.pinned (OpenSpec.upto snapshotRefusesSpec)

end Rows
end Go.Proofs.YtnlokpakiambaaaGreatDoor
