/- The law SchemaAdds, over what comes in. -/
import Derived.Test.YtophcoaikelopaaDoorLA
import Derived.Test.YtophcoaikelopaaDoorRowC
namespace Go.Proofs.YtophcoaikelopaaDoor
open Go.RowKit
theorem schemaAdds_law (w : World) (hT : Tabs w) {v1 : Value} (t : Tbl) (h1 : TblIs w v1 t ∧ TblIn t) {v2 : Value} (l : List Col) (h2 : ColsIs w v2 l) :
    Calls Tryd.prog 8 #[v1, v2] w fun e w' => e = .returned (.bool true) ∧ Below w.heap.size w w' := by
  obtain ⟨A, n, c, rfl, h2, h3, h4⟩ := h2
  exact schemaAdds_walk t v1 l A n c w hT h1.1 h1.2 h2 h3 h4
end Go.Proofs.YtophcoaikelopaaDoor
