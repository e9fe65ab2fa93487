/- The card of SnapshotInTx: its row tied to the program's text. -/
import Derived.Test.YtmhbokcccjmfgaaGreatDoorQbe
set_option maxRecDepth 100000
set_option maxHeartbeats 16000000
namespace Go.Proofs.YtmhbokcccjmfgaaGreatDoor.snapshotInTx
open Go.Lib (hid)
section
open Go.ChangeShapes Go.WideShapes Go.ChangeAt Go.RowKit
theorem card:Rows.SnapshotInTxCardSaid:=by
 refine Claim7.holds_tied_plain_at .later [] _ _ _ _ said (fun _ h=>by cases h) ?_ (fun _ h=>by cases h) snapshotInTx_row_tie rfl ⟨rfl,rfl⟩ ?_ rfl plain ?_;all_goals (as_aux_lemma=>kernel_rfl)
#print axioms card
end
end Go.Proofs.YtmhbokcccjmfgaaGreatDoor.snapshotInTx
