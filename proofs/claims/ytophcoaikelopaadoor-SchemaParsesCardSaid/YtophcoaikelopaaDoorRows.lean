/-
  NARROWER THAN 'FOR EVERY INPUT', by the rows' own cells (each row's printed sentence says how): SchemaFits: laid · SchemaReserved: laid · SchemaValid: laid · SchemaEncodes: laid · SchemaParses: laid · SchemaAdds: laid.
  DERIVED. THE GIVEN ROWS OF THIS SEAT. 6 by the template 'for every input the law returns true; each argument reads behind the call as it read before'; 0 by the template 'total and deterministic' (their statements: YtophcoaikelopaaDoorTotals.lean).
  GIVEN WITH THE SEED: the statements are not yours to turn. If you find one false, say at which input.
  Laid BY PROGRAM, IN A SANDBOX (cutbox-rows.mjs): the forced cells as the released guide's own fill.sh prints them over the translation 61413ea4e78f7345… (all of the seat's roots in one cut). By AI agents, Wed Nov 11 2026. No macro, syntax, notation, axiom, sorry.
-/
import Derived.Test.YtophcoaikelopaaDoorChecked
import GoSem.PinnedTables
import GoSem.Claim
import GoSem.ClaimJoined
import GoSem.ClaimMapViews
import Derived.JoinedTies
import Derived.KernelRfl
namespace Go.Proofs.YtophcoaikelopaaDoor
/- THE CELL 'sum', in the pinned program and in every row, IS THE sha256 OF THE DUMP (.gsa) THAT YtophcoaikelopaaDoorProg.lean LOADS. Nothing in Lean hashes anything: it is a label: what it is worth is what the hold of that sum in a sandbox is worth. -/
noncomputable def Tryd.pinned : Pinned := { name := "ytophcoaikelopaadoor", sum := "61413ea4e78f7345604a51cce4fcf6b919c173f7630aeb3f18e679b2a058397b", checked := Tryd.checked }
namespace Rows
def none {H : Type} : Left H := { results := [], args := [] }

/- WHAT THE LISTED PACKAGE-LEVEL VARIABLES READ AS WHEN THE CALL BEGINS. Each datum BY PROGRAM (the guide's laid-datum.mjs) off the statement by which the dump's own 'gosem.cut.vars' lays the variable. In a bare row this is a premise. The card (YtophcoaikelopaaDoorCards.lean) ties it to the program's text. -/
def laid_unicode_utf8_acceptRanges {H : Type} : DataW H := .agg [.agg [.lit (.int .u8 128), .lit (.int .u8 191)], .agg [.lit (.int .u8 160), .lit (.int .u8 191)], .agg [.lit (.int .u8 128), .lit (.int .u8 159)], .agg [.lit (.int .u8 144), .lit (.int .u8 191)], .agg [.lit (.int .u8 128), .lit (.int .u8 143)], .agg [.lit (.int .u8 0), .lit (.int .u8 0)], .agg [.lit (.int .u8 0), .lit (.int .u8 0)], .agg [.lit (.int .u8 0), .lit (.int .u8 0)], .agg [.lit (.int .u8 0), .lit (.int .u8 0)], .agg [.lit (.int .u8 0), .lit (.int .u8 0)], .agg [.lit (.int .u8 0), .lit (.int .u8 0)], .agg [.lit (.int .u8 0), .lit (.int .u8 0)], .agg [.lit (.int .u8 0), .lit (.int .u8 0)], .agg [.lit (.int .u8 0), .lit (.int .u8 0)], .agg [.lit (.int .u8 0), .lit (.int .u8 0)], .agg [.lit (.int .u8 0), .lit (.int .u8 0)]]
/-- One of Go's own tables, pinned by name: the form's constant. -/
def laid_unicode_utf8_first : DataW Unit := Go.Pinned.utf8First

/-- 'bedrocklaw39.SchemaFits': WHATEVER THE INPUT: true; the input reads as it did. -/
def schemaFitsSpec : ChangeSpec := { name := "schemaFits", fn := fun _ => fun
  | [d1, d2] => { results := [.lit (.bool true)], args := [d1, d2] }
  | _ => none }
def schemaFitsRow : OpenClaim := { program := "ytophcoaikelopaadoor", sum := "61413ea4e78f7345604a51cce4fcf6b919c173f7630aeb3f18e679b2a058397b", func := "bedrock/bedrocklaw39.SchemaFits", spec := "schemaFits", unfollowed := true, recurses := true, named := ["unicode/utf8.first", "unicode/utf8.acceptRanges"], apart := false, laid := [("unicode/utf8.acceptRanges", laid_unicode_utf8_acceptRanges), ("unicode/utf8.first", laid_unicode_utf8_first)] }
def SchemaFitsSaid : Prop := schemaFitsRow.holds Tryd.pinned (OpenSpec.ofChange schemaFitsSpec)

/-- ITS FALSE NEIGHBOUR: 'it returns false'. Refute it at one input. -/
def schemaFitsWrong : ChangeSpec := { name := "schemaFits", fn := fun _ => fun
  | [d1, d2] => { results := [.lit (.bool false)], args := [d1, d2] }
  | _ => none }
def SchemaFitsWrongFalsely : Prop := schemaFitsRow.holds Tryd.pinned (OpenSpec.ofChange schemaFitsWrong)

/-- 'bedrocklaw39.SchemaReserved': WHATEVER THE INPUT: true; the input reads as it did. -/
def schemaReservedSpec : ChangeSpec := { name := "schemaReserved", fn := fun _ => fun
  | [d1, d2] => { results := [.lit (.bool true)], args := [d1, d2] }
  | _ => none }
def schemaReservedRow : OpenClaim := { program := "ytophcoaikelopaadoor", sum := "61413ea4e78f7345604a51cce4fcf6b919c173f7630aeb3f18e679b2a058397b", func := "bedrock/bedrocklaw39.SchemaReserved", spec := "schemaReserved", unfollowed := true, recurses := true, named := ["unicode/utf8.first", "unicode/utf8.acceptRanges"], apart := false, laid := [("unicode/utf8.acceptRanges", laid_unicode_utf8_acceptRanges), ("unicode/utf8.first", laid_unicode_utf8_first)] }
def SchemaReservedSaid : Prop := schemaReservedRow.holds Tryd.pinned (OpenSpec.ofChange schemaReservedSpec)

/-- ITS FALSE NEIGHBOUR: 'it returns false'. Refute it at one input. -/
def schemaReservedWrong : ChangeSpec := { name := "schemaReserved", fn := fun _ => fun
  | [d1, d2] => { results := [.lit (.bool false)], args := [d1, d2] }
  | _ => none }
def SchemaReservedWrongFalsely : Prop := schemaReservedRow.holds Tryd.pinned (OpenSpec.ofChange schemaReservedWrong)

/-- 'bedrocklaw39.SchemaValid': WHATEVER THE INPUT: true; the input reads as it did. -/
def schemaValidSpec : ChangeSpec := { name := "schemaValid", fn := fun _ => fun
  | [d1, d2] => { results := [.lit (.bool true)], args := [d1, d2] }
  | _ => none }
def schemaValidRow : OpenClaim := { program := "ytophcoaikelopaadoor", sum := "61413ea4e78f7345604a51cce4fcf6b919c173f7630aeb3f18e679b2a058397b", func := "bedrock/bedrocklaw39.SchemaValid", spec := "schemaValid", unfollowed := true, recurses := true, named := ["unicode/utf8.first", "unicode/utf8.acceptRanges"], apart := false, laid := [("unicode/utf8.acceptRanges", laid_unicode_utf8_acceptRanges), ("unicode/utf8.first", laid_unicode_utf8_first)] }
def SchemaValidSaid : Prop := schemaValidRow.holds Tryd.pinned (OpenSpec.ofChange schemaValidSpec)

/-- ITS FALSE NEIGHBOUR: 'it returns false'. Refute it at one input. -/
def schemaValidWrong : ChangeSpec := { name := "schemaValid", fn := fun _ => fun
  | [d1, d2] => { results := [.lit (.bool false)], args := [d1, d2] }
  | _ => none }
def SchemaValidWrongFalsely : Prop := schemaValidRow.holds Tryd.pinned (OpenSpec.ofChange schemaValidWrong)

/-- 'bedrocklaw39.SchemaEncodes': WHATEVER THE INPUT: true; the input reads as it did. -/
def schemaEncodesSpec : ChangeSpec := { name := "schemaEncodes", fn := fun _ => fun
  | [d] => { results := [.lit (.bool true)], args := [d] }
  | _ => none }
def schemaEncodesRow : OpenClaim := { program := "ytophcoaikelopaadoor", sum := "61413ea4e78f7345604a51cce4fcf6b919c173f7630aeb3f18e679b2a058397b", func := "bedrock/bedrocklaw39.SchemaEncodes", spec := "schemaEncodes", unfollowed := true, recurses := true, named := ["unicode/utf8.first", "unicode/utf8.acceptRanges"], apart := false, laid := [("unicode/utf8.acceptRanges", laid_unicode_utf8_acceptRanges), ("unicode/utf8.first", laid_unicode_utf8_first)] }
def SchemaEncodesSaid : Prop := schemaEncodesRow.holds Tryd.pinned (OpenSpec.ofChange schemaEncodesSpec)

/-- ITS FALSE NEIGHBOUR: 'it returns false'. Refute it at one input. -/
def schemaEncodesWrong : ChangeSpec := { name := "schemaEncodes", fn := fun _ => fun
  | [d] => { results := [.lit (.bool false)], args := [d] }
  | _ => none }
def SchemaEncodesWrongFalsely : Prop := schemaEncodesRow.holds Tryd.pinned (OpenSpec.ofChange schemaEncodesWrong)

/-- 'bedrocklaw39.SchemaParses': WHATEVER THE INPUT: true; the input reads as it did. -/
def schemaParsesSpec : ChangeSpec := { name := "schemaParses", fn := fun _ => fun
  | [d] => { results := [.lit (.bool true)], args := [d] }
  | _ => none }
def schemaParsesRow : OpenClaim := { program := "ytophcoaikelopaadoor", sum := "61413ea4e78f7345604a51cce4fcf6b919c173f7630aeb3f18e679b2a058397b", func := "bedrock/bedrocklaw39.SchemaParses", spec := "schemaParses", unfollowed := true, recurses := true, named := ["unicode/utf8.first", "unicode/utf8.acceptRanges"], apart := false, laid := [("unicode/utf8.acceptRanges", laid_unicode_utf8_acceptRanges), ("unicode/utf8.first", laid_unicode_utf8_first)] }
def SchemaParsesSaid : Prop := schemaParsesRow.holds Tryd.pinned (OpenSpec.ofChange schemaParsesSpec)

/-- ITS FALSE NEIGHBOUR: 'it returns false'. Refute it at one input. -/
def schemaParsesWrong : ChangeSpec := { name := "schemaParses", fn := fun _ => fun
  | [d] => { results := [.lit (.bool false)], args := [d] }
  | _ => none }
def SchemaParsesWrongFalsely : Prop := schemaParsesRow.holds Tryd.pinned (OpenSpec.ofChange schemaParsesWrong)

/-- 'bedrocklaw39.SchemaAdds': WHATEVER THE INPUT: true; the input reads as it did. -/
def schemaAddsSpec : ChangeSpec := { name := "schemaAdds", fn := fun _ => fun
  | [d1, d2] => { results := [.lit (.bool true)], args := [d1, d2] }
  | _ => none }
def schemaAddsRow : OpenClaim := { program := "ytophcoaikelopaadoor", sum := "61413ea4e78f7345604a51cce4fcf6b919c173f7630aeb3f18e679b2a058397b", func := "bedrock/bedrocklaw39.SchemaAdds", spec := "schemaAdds", unfollowed := true, recurses := true, named := ["unicode/utf8.first", "unicode/utf8.acceptRanges"], apart := false, laid := [("unicode/utf8.acceptRanges", laid_unicode_utf8_acceptRanges), ("unicode/utf8.first", laid_unicode_utf8_first)] }
def SchemaAddsSaid : Prop := schemaAddsRow.holds Tryd.pinned (OpenSpec.ofChange schemaAddsSpec)

/-- ITS FALSE NEIGHBOUR: 'it returns false'. Refute it at one input. -/
def schemaAddsWrong : ChangeSpec := { name := "schemaAdds", fn := fun _ => fun
  | [d1, d2] => { results := [.lit (.bool false)], args := [d1, d2] }
  | _ => none }
def SchemaAddsWrongFalsely : Prop := schemaAddsRow.holds Tryd.pinned (OpenSpec.ofChange schemaAddsWrong)

/- THE SECOND FORM. 'bulk': how many values and letters a reading holds, each counted each time it is reached (what is shared counts as often as it is met; a slice's spare places count too). A statement '..UptoSaid' is the law's where the arguments, and the package variables that the reading takes, are together of bulk at most 1048576: NARROWER than '..Said'. Prove '..Said' where nothing that the law and all that it calls make is longer than what came in: it says more and counts as full. Else prove '..UptoSaid'. A law counts once. -/
mutual
def uptoBulk {H : Type} : DataW H → Nat
  | .lit (.string bytes) => bytes.length + 1
  | .lit _ => 1
  | .nil => 1
  | .ptr d => uptoBulk d + 1
  | .slice elems spare => uptoBulkAll elems + uptoBulkAll spare + 1
  | .agg parts => uptoBulkAll parts + 1
  | .iface _ d => uptoBulk d + 1
  | .map entries => uptoBulkEntries entries + 1
  | .held _ => 1
def uptoBulkAll {H : Type} : List (DataW H) → Nat
  | [] => 0
  | d :: r => uptoBulk d + uptoBulkAll r
def uptoBulkEntries {H : Type} : List (Lit × DataW H) → Nat
  | [] => 0
  | x :: r => uptoBulkEntry x + uptoBulkEntries r
def uptoBulkEntry {H : Type} : Lit × DataW H → Nat
  | (.string bytes, d) => bytes.length + uptoBulk d + 1
  | (_, d) => uptoBulk d + 1
 end
def uptoSmall : (H : Type) → List (DataW H) → Bool := fun _ ds => decide (uptoBulkAll ds ≤ 1048576)
def OpenSpec.upto (s : _root_.Go.ChangeSpec) : _root_.Go.OpenSpec := { _root_.Go.OpenSpec.ofChange s with cond := some uptoSmall }

/-- 'bedrocklaw39.SchemaFits', WHERE WHAT IT READS IS OF BULK AT MOST 1048576: true; the input reads as it did. -/
def schemaFitsUptoRow : OpenClaim := { program := "ytophcoaikelopaadoor", sum := "61413ea4e78f7345604a51cce4fcf6b919c173f7630aeb3f18e679b2a058397b", func := "bedrock/bedrocklaw39.SchemaFits", spec := "schemaFits", unfollowed := true, recurses := true, named := ["unicode/utf8.first", "unicode/utf8.acceptRanges"], apart := false, laid := [("unicode/utf8.acceptRanges", laid_unicode_utf8_acceptRanges), ("unicode/utf8.first", laid_unicode_utf8_first)], narrowed := true }
def SchemaFitsUptoSaid : Prop := schemaFitsUptoRow.holds Tryd.pinned (OpenSpec.upto schemaFitsSpec)

/-- 'bedrocklaw39.SchemaReserved', WHERE WHAT IT READS IS OF BULK AT MOST 1048576: true; the input reads as it did. -/
def schemaReservedUptoRow : OpenClaim := { program := "ytophcoaikelopaadoor", sum := "61413ea4e78f7345604a51cce4fcf6b919c173f7630aeb3f18e679b2a058397b", func := "bedrock/bedrocklaw39.SchemaReserved", spec := "schemaReserved", unfollowed := true, recurses := true, named := ["unicode/utf8.first", "unicode/utf8.acceptRanges"], apart := false, laid := [("unicode/utf8.acceptRanges", laid_unicode_utf8_acceptRanges), ("unicode/utf8.first", laid_unicode_utf8_first)], narrowed := true }
def SchemaReservedUptoSaid : Prop := schemaReservedUptoRow.holds Tryd.pinned (OpenSpec.upto schemaReservedSpec)

/-- 'bedrocklaw39.SchemaValid', WHERE WHAT IT READS IS OF BULK AT MOST 1048576: true; the input reads as it did. -/
def schemaValidUptoRow : OpenClaim := { program := "ytophcoaikelopaadoor", sum := "61413ea4e78f7345604a51cce4fcf6b919c173f7630aeb3f18e679b2a058397b", func := "bedrock/bedrocklaw39.SchemaValid", spec := "schemaValid", unfollowed := true, recurses := true, named := ["unicode/utf8.first", "unicode/utf8.acceptRanges"], apart := false, laid := [("unicode/utf8.acceptRanges", laid_unicode_utf8_acceptRanges), ("unicode/utf8.first", laid_unicode_utf8_first)], narrowed := true }
def SchemaValidUptoSaid : Prop := schemaValidUptoRow.holds Tryd.pinned (OpenSpec.upto schemaValidSpec)

/-- 'bedrocklaw39.SchemaEncodes', WHERE WHAT IT READS IS OF BULK AT MOST 1048576: true; the input reads as it did. -/
def schemaEncodesUptoRow : OpenClaim := { program := "ytophcoaikelopaadoor", sum := "61413ea4e78f7345604a51cce4fcf6b919c173f7630aeb3f18e679b2a058397b", func := "bedrock/bedrocklaw39.SchemaEncodes", spec := "schemaEncodes", unfollowed := true, recurses := true, named := ["unicode/utf8.first", "unicode/utf8.acceptRanges"], apart := false, laid := [("unicode/utf8.acceptRanges", laid_unicode_utf8_acceptRanges), ("unicode/utf8.first", laid_unicode_utf8_first)], narrowed := true }
def SchemaEncodesUptoSaid : Prop := schemaEncodesUptoRow.holds Tryd.pinned (OpenSpec.upto schemaEncodesSpec)

/-- 'bedrocklaw39.SchemaParses', WHERE WHAT IT READS IS OF BULK AT MOST 1048576: true; the input reads as it did. -/
def schemaParsesUptoRow : OpenClaim := { program := "ytophcoaikelopaadoor", sum := "61413ea4e78f7345604a51cce4fcf6b919c173f7630aeb3f18e679b2a058397b", func := "bedrock/bedrocklaw39.SchemaParses", spec := "schemaParses", unfollowed := true, recurses := true, named := ["unicode/utf8.first", "unicode/utf8.acceptRanges"], apart := false, laid := [("unicode/utf8.acceptRanges", laid_unicode_utf8_acceptRanges), ("unicode/utf8.first", laid_unicode_utf8_first)], narrowed := true }
def SchemaParsesUptoSaid : Prop := schemaParsesUptoRow.holds Tryd.pinned (OpenSpec.upto schemaParsesSpec)

/-- 'bedrocklaw39.SchemaAdds', WHERE WHAT IT READS IS OF BULK AT MOST 1048576: true; the input reads as it did. -/
def schemaAddsUptoRow : OpenClaim := { program := "ytophcoaikelopaadoor", sum := "61413ea4e78f7345604a51cce4fcf6b919c173f7630aeb3f18e679b2a058397b", func := "bedrock/bedrocklaw39.SchemaAdds", spec := "schemaAdds", unfollowed := true, recurses := true, named := ["unicode/utf8.first", "unicode/utf8.acceptRanges"], apart := false, laid := [("unicode/utf8.acceptRanges", laid_unicode_utf8_acceptRanges), ("unicode/utf8.first", laid_unicode_utf8_first)], narrowed := true }
def SchemaAddsUptoSaid : Prop := schemaAddsUptoRow.holds Tryd.pinned (OpenSpec.upto schemaAddsSpec)

end Rows
end Go.Proofs.YtophcoaikelopaaDoor
