/- Walks: the law SchemaFits. -/
import Derived.Test.YtophcoaikelopaaDoorWS
import Derived.Test.YtophcoaikelopaaDoorWN
namespace Go.Proofs.YtophcoaikelopaaDoor
open Go.RowKit

set_option maxRecDepth 100000 in
set_option maxHeartbeats 4000000 in
theorem schemaFits_walk (c : Col) (v : Val) (w : World) (hT : Tabs w) (hs : v.text.size ≤ 9223372036854775807) :
    Calls Tryd.prog 3 #[c.val, v.val] w fun e w' => e = .returned (.bool true) ∧ Below w.heap.size w w' := by
  have HT := fun o o' => Lib.hid (fun (x : Aft ((w.alloc o).alloc o')) => (hT.below (bel2 w o o')).below x.below)
  have hx := fun o o' => @aft_cell ((w.alloc o).alloc o')
  have HF := fun o o' => Lib.hid (fun (x : Aft ((w.alloc o).alloc o')) => fits_any c v x.at_ hs ((HT o o').out x))
  have HG := fun o o' => Lib.hid (fun (x : Aft ((w.alloc o).alloc o')) => refFits_any c v x.at_ hs)
  generalize fits c v = R at *
  clear hT
  go_enter Tryd.func3, Tryd.ntmps3
  go_wp2
  refine wp_region_after_lit (by kernel_rfl) (by kernel_rfl) ?_
  repeat (go_big_quiet_step (first
    | (go_at_call 9; exact after_below (awake_any _ ((HT _ _).out _)))
    | (go_at_call 10; exact after_below (column_any _ _ _ _ _ _ _ _ _ _))
    | (go_at_call 12; exact after_below (value_any _ _ _ _ _ _))
    | (go_at_call 11; exact after_below ((HF _ _).out _))
    | (go_at_call 13; exact after_below ((HG _ _).out _))))
  refine wpQuiet_nil ?_
  rintro _ ⟨x, rfl⟩
  have hb := x.below
  go_wp2
  go_ret
  exact ⟨rfl, (bel2 _ _ _).trans (hb.mono (by simp; omega))⟩
theorem schemaFits_law (w : World) (hT : Tabs w) {v1 : Value} (c : Col) (h1 : v1 = c.val ∧ c.name.size ≤ maxLen ∧ c.d.text.size ≤ maxLen) {v2 : Value} (v : Val) (h2 : v2 = v.val ∧ v.text.size ≤ maxLen) :
    Calls Tryd.prog 3 #[v1, v2] w fun e w' => e = .returned (.bool true) ∧ Below w.heap.size w w' := by
  obtain ⟨rfl, _⟩ := h1
  obtain ⟨rfl, hs⟩ := h2
  exact schemaFits_walk c v w hT (by unfold maxLen at hs; omega)
end Go.Proofs.YtophcoaikelopaaDoor
