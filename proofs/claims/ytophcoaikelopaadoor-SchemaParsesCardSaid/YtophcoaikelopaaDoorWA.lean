/- Walks: values and columns between the two packages. -/
import Derived.Test.YtophcoaikelopaaDoorCls
namespace Go.Proofs.YtophcoaikelopaaDoor
open Go.RowKit

set_option maxHeartbeats 400000 in
theorem value_any (t i : Int) (n b : Bool) (s : ByteArray) (w : World) :
    Calls Tryd.prog 12 #[.agg #[.int .u8 t, .bool n, .int .i64 i, .string s, .bool b]] w fun e w' => e = .returned (.agg #[.int .u8 t, .bool n, .int .i64 i, .string s, .bool b]) ∧ Below w.heap.size w w' := by
  go_enter Tryd.func12, Tryd.ntmps12
  go_wp2
  refine bodyPost_ret (v := .agg #[.int .u8 t, .bool n, .int .i64 i, .string s, .bool b]) (by simp [results, Tryd.results12, go_sem]) rfl ⟨rfl, ?_⟩
  exact ((Below.refl _ _).alloc (Nat.le_refl _) _).alloc (by simp) _
set_option maxHeartbeats 400000 in
theorem column_any (name : ByteArray) (t : Int) (n : Bool) (since : Int) (t2 i2 : Int) (n2 b2 : Bool) (s2 : ByteArray) (w : World) :
    Calls Tryd.prog 10 #[.agg #[.string name, .int .u8 t, .bool n, .int .i64 since, .int .u8 t2, .bool n2, .int .i64 i2, .string s2, .bool b2]] w fun e w' =>
      e = .returned (.agg #[.string name, .int .u8 t, .bool n, .int .i64 since, .int .u8 t2, .bool n2, .int .i64 i2, .string s2, .bool b2]) ∧ Below w.heap.size w w' := by
  go_enter Tryd.func10, Tryd.ntmps10
  go_wp2
  have hx := @aft_cell ((w.alloc (.cells #[.string name, .int .u8 t, .bool n, .int .i64 since, .int .u8 t2, .bool n2, .int .i64 i2, .string s2, .bool b2] 25)).alloc (.cells #[.string ⟨#[]⟩, .int .u8 0, .bool false, .int .i64 0, .int .u8 0, .bool false, .int .i64 0, .string ⟨#[]⟩, .bool false] 32))
  refine wp_region_after_tail 12 (by kernel_rfl) (by kernel_rfl) ?_
  simp only [List.take_succ_cons, List.take_zero, List.drop_succ_cons, List.drop_zero]
  repeat (go_big_quiet_step (first
    | (go_at_call 12; exact after_below (value_any _ _ _ _ _ _))))
  refine wpQuiet_nil ?_
  rintro _ ⟨x, rfl⟩
  have hb := x.below
  obtain ⟨hc, hf⟩ := bcell hb
  go_wp2
  refine bodyPost_ret (v := .agg #[.string name, .int .u8 t, .bool n, .int .i64 since, .int .u8 t2, .bool n2, .int .i64 i2, .string s2, .bool b2]) (by simp [results, Tryd.results10, go_sem, hc]) rfl ⟨rfl, ?_⟩
  have hB : Below w.heap.size w x.at_ := (((Below.refl _ _).alloc (Nat.le_refl _) _).alloc (by simp) _).trans (hb.mono (by simp; omega))
  iterate 9 (refine Below.setCell ?_ (by simp) _)
  exact hB
end Go.Proofs.YtophcoaikelopaaDoor
