/- Walks: the law SchemaValid. -/
import Derived.Test.YtophcoaikelopaaDoorWS
import Derived.Test.YtophcoaikelopaaDoorWT
import Derived.Test.YtophcoaikelopaaDoorRowT
import Derived.Deep.DrawnRows
namespace Go.Proofs.YtophcoaikelopaaDoor
open Go.RowKit
attribute [local go_sem ↓] Go.wp_at_zero Go.wp_at_succ

section
variable {w : World} {v : Value} {t : Tbl}
theorem refValid_is (h : TblIs w v t) (hs : Sized t) (hc : t.cols.length ≤ 1000) (hx : t.idxs.length ≤ 1000) : Calls Tryd.prog 21 #[v] w fun e w' => e = .returned (.int .i64 (valid t)) ∧ Below w.heap.size w w' := by
  obtain ⟨A, n, c, A2, n2, c2, rfl, h1, h2, h3, h4⟩ := h
  have e1 := h1.1; rw [colCells_len] at e1
  have e2 := h2.1; rw [idxCells_len] at e2
  exact refValid_walk t A A2 n c n2 c2 w hs h1 h2 (by omega) (by omega)
theorem find_is (h : TblIs w v t) (s : ByteArray) (hc : t.cols.length ≤ 1000) : Calls Tryd.prog 22 #[v, .string s] w fun e w' => e = .returned (.int .i64 (findC t.cols s)) ∧ Below w.heap.size w w' := by
  obtain ⟨A, n, c, A2, n2, c2, rfl, h1, h2, h3, h4⟩ := h
  have e1 := h1.1; rw [colCells_len] at e1
  exact find_any t.cols A n c s _ _ _ _ _ w h1 (by omega)
theorem refFind_is (h : TblIs w v t) (s : ByteArray) (hc : t.cols.length ≤ 1000) : Calls Tryd.prog 23 #[v, .string s] w fun e w' => e = .returned (.int .i64 (findC t.cols s)) ∧ Below w.heap.size w w' := by
  obtain ⟨A, n, c, A2, n2, c2, rfl, h1, h2, h3, h4⟩ := h
  have e1 := h1.1; rw [colCells_len] at e1
  exact refFind_any t.cols A n c s _ _ _ _ _ w h1 (by omega)
theorem index_is (h : TblIs w v t) (s : ByteArray) (hc : t.idxs.length ≤ 1000) : Calls Tryd.prog 24 #[v, .string s] w fun e w' => e = .returned (.int .i64 (findI t.idxs s)) ∧ Below w.heap.size w w' := by
  obtain ⟨A, n, c, A2, n2, c2, rfl, h1, h2, h3, h4⟩ := h
  have e2 := h2.1; rw [idxCells_len] at e2
  exact index_any t.idxs A2 n2 c2 s _ _ _ _ _ w h2 (by omega)
theorem refIndex_is (h : TblIs w v t) (s : ByteArray) (hc : t.idxs.length ≤ 1000) : Calls Tryd.prog 25 #[v, .string s] w fun e w' => e = .returned (.int .i64 (findI t.idxs s)) ∧ Below w.heap.size w w' := by
  obtain ⟨A, n, c, A2, n2, c2, rfl, h1, h2, h3, h4⟩ := h
  have e2 := h2.1; rw [idxCells_len] at e2
  exact refIndex_any t.idxs A2 n2 c2 s _ _ _ _ _ w h2 (by omega)
theorem few_len (t : Tbl) : (few t).cols.length ≤ 10 ∧ (few t).idxs.length ≤ 6 := by simp only [few, List.length_take]; omega
theorem few_sized (h : TblIn t) : Sized (few t) := by
  refine ⟨?_, fun k hk => ?_⟩
  · have h1 := h.name; unfold maxLen at h1; exact h1
  · have hm : (few t).cols[k] ∈ t.cols := List.mem_of_mem_take (List.getElem_mem hk)
    have h1 := h.cols _ hm
    generalize (few t).cols[k] = c at *
    unfold ColIn maxLen at h1
    omega
/-- The value of a table, cut short. -/
theorem few_is {A A2 : Option Addr} {n c n2 c2 : Nat} (h1 : Reads w w.heap.size 9 A n (colCells t.cols)) (h2 : Reads w w.heap.size 2 A2 n2 (idxCells t.idxs)) (hc : n ≤ c) (hc2 : n2 ≤ c2) :
    ∃ m m2, ((n ≤ 10 ∧ m = n) ∨ (10 < n ∧ m = 10)) ∧ ((n2 ≤ 6 ∧ m2 = n2) ∨ (6 < n2 ∧ m2 = 6)) ∧
      TblIs w (.agg #[.string t.name, .int .i64 t.ver, .slice A m c, .slice A2 m2 c2, .int .u64 (t.rows : Int), .int .u64 (t.ents : Int)]) (few t) := by
  have e1 := h1.1; rw [colCells_len] at e1
  have e2 := h2.1; rw [idxCells_len] at e2
  obtain ⟨m, hm, hm'⟩ : ∃ m, ((n ≤ 10 ∧ m = n) ∨ (10 < n ∧ m = 10)) ∧ t.cols.take 10 = t.cols.take m := by
    by_cases h : n ≤ 10
    · exact ⟨n, .inl ⟨h, rfl⟩, by rw [List.take_of_length_le (by omega), List.take_of_length_le (by omega)]⟩
    · exact ⟨10, .inr ⟨by omega, rfl⟩, rfl⟩
  obtain ⟨m2, hm2, hm2'⟩ : ∃ m, ((n2 ≤ 6 ∧ m = n2) ∨ (6 < n2 ∧ m = 6)) ∧ t.idxs.take 6 = t.idxs.take m := by
    by_cases h : n2 ≤ 6
    · exact ⟨n2, .inl ⟨h, rfl⟩, by rw [List.take_of_length_le (by omega), List.take_of_length_le (by omega)]⟩
    · exact ⟨6, .inr ⟨by omega, rfl⟩, rfl⟩
  refine ⟨m, m2, hm, hm2, A, m, c, A2, m2, c2, rfl, ?_, ?_, by omega, by omega⟩
  · have := h1.take_ m (by omega)
    rw [colCells_take, ← hm'] at this
    exact this
  · have := h2.take_ m2 (by omega)
    rw [idxCells_take, ← hm2'] at this
    exact this
end
theorem VInv.set_ {T : TypeId} {w wr : World} {arg : Array Value} (h : VInv T w wr arg) (i : Nat) (x : Value) : VInv T w (wr.setCell ⟨w.heap.size, i, none⟩ x) (arg.setIfInBounds i x) :=
  ⟨h.below.setCell (p := ⟨w.heap.size, i, none⟩) (Nat.le_refl _) x, h.arg.set_ i x⟩
theorem VInv.drew {T : TypeId} {w wr : World} {arg : Array Value} (h : VInv T w wr arg) : VInv T w wr.drew arg := ⟨h.below.drew, h.arg⟩
/-- A table stored into a variable. -/
def put6 (w : World) (g : Nat) (x0 x1 x2 x3 x4 x5 : Value) : World :=
  (((((w.setCell ⟨g, 0, none⟩ x0).setCell ⟨g, 1, none⟩ x1).setCell ⟨g, 2, none⟩ x2).setCell ⟨g, 3, none⟩ x3).setCell ⟨g, 4, none⟩ x4).setCell ⟨g, 5, none⟩ x5
theorem VInv.put6 {T : TypeId} {w wr : World} {a0 a1 a2 a3 a4 a5 : Value} (h : VInv T w wr #[a0, a1, a2, a3, a4, a5]) (x0 x1 x2 x3 x4 x5 : Value) : VInv T w (put6 wr w.heap.size x0 x1 x2 x3 x4 x5) #[x0, x1, x2, x3, x4, x5] :=
  (((((h.set_ 0 x0).set_ 1 x1).set_ 2 x2).set_ 3 x3).set_ 4 x4).set_ 5 x5
set_option maxRecDepth 100000 in
set_option maxHeartbeats 8000000 in
theorem schemaValid_walk (t : Tbl) (v : Value) (s : ByteArray) (w : World) (hT : Tabs w) (hI : TblIs w v t) (hin : TblIn t) :
    Calls Tryd.prog 5 #[v, .string s] w fun e w' => e = .returned (.bool true) ∧ Below w.heap.size w w' := by
  obtain ⟨A, n, c, A2, n2, c2, rfl, h1, h2, h3, h4⟩ := hI
  obtain ⟨m, m2, hm, hm2, hF⟩ := few_is h1 h2 h3 h4
  have HF := Lib.hid hF
  have HS := Lib.hid (few_sized hin)
  have HL := Lib.hid (few_len t)
  have HT := Lib.hid hT
  have HFW := fun W => Lib.hid (few_core t.name t.ver (t.rows : Int) (t.ents : Int) A A2 n n2 c c2 m m2 W h3 h4 hm hm2)
  clear h1 h2 hF hT hm hm2 hin
  generalize few t = t' at *
  have hc1 : t'.cols.length ≤ 1000 := by have := HL.out; omega
  have hc2 : t'.idxs.length ≤ 1000 := by have := HL.out; omega
  have HTI : Hid (∀ W, Below w.heap.size w W → TblIs W (.agg #[.string t.name, .int .i64 t.ver, .slice A m c, .slice A2 m2 c2, .int .u64 (t.rows : Int), .int .u64 (t.ents : Int)]) t') := fun W hb => HF.out.below hb
  go_enter Tryd.func5, Tryd.ntmps5
  go_wp2_with fail
  refine (awake_any _ (HT.out.below (bel1 _ _))).mono ?_
  rintro e w1 ⟨rfl, hb1⟩
  have HV1 := Lib.hid ((VInv.new 44 w _).step hb1)
  have t0 : w1.cell? ⟨w.heap.size, 0, none⟩ = some (.string t.name) := HV1.out.arg.cell 0
  have t1 : w1.cell? ⟨w.heap.size, 1, none⟩ = some (.int .i64 t.ver) := HV1.out.arg.cell 1
  have t2 : w1.cell? ⟨w.heap.size, 2, none⟩ = some (.slice A n c) := HV1.out.arg.cell 2
  have t3 : w1.cell? ⟨w.heap.size, 3, none⟩ = some (.slice A2 n2 c2) := HV1.out.arg.cell 3
  have t4 : w1.cell? ⟨w.heap.size, 4, none⟩ = some (.int .u64 (t.rows : Int)) := HV1.out.arg.cell 4
  have t5 : w1.cell? ⟨w.heap.size, 5, none⟩ = some (.int .u64 (t.ents : Int)) := HV1.out.arg.cell 5
  clear hb1
  go_wp2_with fail
  refine (HFW _).out.mono ?_
  rintro e w2 ⟨rfl, hb2⟩
  have HV2 := Lib.hid (HV1.out.step hb2)
  clear hb2 t0 t1 t2 t3 t4 t5 HV1 HFW
  have r0 := HV2.out.arg.cell 0
  have r1 := HV2.out.arg.cell 1
  have r2 := HV2.out.arg.cell 2
  have r3 := HV2.out.arg.cell 3
  have r4 := HV2.out.arg.cell 4
  have r5 := HV2.out.arg.cell 5
  have z0 := HV2.out.arg.frozen 0
  have z1 := HV2.out.arg.frozen 1
  have z2 := HV2.out.arg.frozen 2
  have z3 := HV2.out.arg.frozen 3
  have z4 := HV2.out.arg.frozen 4
  have z5 := HV2.out.arg.frozen 5
  simp at r0 r1 r2 r3 r4 r5
  go_wp2
  clear r0 r1 r2 r3 r4 r5 z0 z1 z2 z3 z4 z5
  have HV3 := Lib.hid (HV2.out.put6 (.string t.name) (.int .i64 t.ver) (.slice A m c) (.slice A2 m2 c2) (.int .u64 (t.rows : Int)) (.int .u64 (t.ents : Int)))
  show Code.wp _ _ _ _ (put6 w2 w.heap.size (.string t.name) (.int .i64 t.ver) (.slice A m c) (.slice A2 m2 c2) (.int .u64 (t.rows : Int)) (.int .u64 (t.ents : Int)))
  generalize put6 w2 w.heap.size (.string t.name) (.int .i64 t.ver) (.slice A m c) (.slice A2 m2 c2) (.int .u64 (t.rows : Int)) (.int .u64 (t.ents : Int)) = W3 at *
  have HV := Lib.hid HV3.out.drew
  have s0 : W3.drew.cell? ⟨w.heap.size, 0, none⟩ = some (.string t.name) := HV.out.arg.cell 0
  have s1 : W3.drew.cell? ⟨w.heap.size, 1, none⟩ = some (.int .i64 t.ver) := HV.out.arg.cell 1
  have s2 : W3.drew.cell? ⟨w.heap.size, 2, none⟩ = some (.slice A m c) := HV.out.arg.cell 2
  have s3 : W3.drew.cell? ⟨w.heap.size, 3, none⟩ = some (.slice A2 m2 c2) := HV.out.arg.cell 3
  have s4 : W3.drew.cell? ⟨w.heap.size, 4, none⟩ = some (.int .u64 (t.rows : Int)) := HV.out.arg.cell 4
  have s5 : W3.drew.cell? ⟨w.heap.size, 5, none⟩ = some (.int .u64 (t.ents : Int)) := HV.out.arg.cell 5
  have HVW : Hid (∀ W v, TblIs W v t' → Below w.heap.size w W → Calls Tryd.prog 19 #[v] W fun e w' => e = .returned (.int .i64 (valid t')) ∧ Below W.heap.size W w') := fun W v h hb => valid_is h (HT.out.below hb) HS.out hc1 hc2
  have HRV : Hid (∀ W v, TblIs W v t' → Calls Tryd.prog 21 #[v] W fun e w' => e = .returned (.int .i64 (valid t')) ∧ Below W.heap.size W w') := fun W v h => refValid_is h HS.out hc1 hc2
  have HFC : Hid (∀ W v, TblIs W v t' → Calls Tryd.prog 22 #[v, .string s] W fun e w' => e = .returned (.int .i64 (findC t'.cols s)) ∧ Below W.heap.size W w') := fun W v h => find_is h s hc1
  have HRC : Hid (∀ W v, TblIs W v t' → Calls Tryd.prog 23 #[v, .string s] W fun e w' => e = .returned (.int .i64 (findC t'.cols s)) ∧ Below W.heap.size W w') := fun W v h => refFind_is h s hc1
  have HFI : Hid (∀ W v, TblIs W v t' → Calls Tryd.prog 24 #[v, .string s] W fun e w' => e = .returned (.int .i64 (findI t'.idxs s)) ∧ Below W.heap.size W w') := fun W v h => index_is h s hc2
  have HRI : Hid (∀ W v, TblIs W v t' → Calls Tryd.prog 25 #[v, .string s] W fun e w' => e = .returned (.int .i64 (findI t'.idxs s)) ∧ Below W.heap.size W w') := fun W v h => refIndex_is h s hc2
  generalize valid t' = V at *
  generalize findC t'.cols s = F1 at *
  generalize findI t'.idxs s = F2 at *
  have q1 : (V == V) = true := by simp
  have q2 : (F1 == F1) = true := by simp
  have q3 : (F2 == F2) = true := by simp
  go_region_held3 (fun w' => w'.cell? ⟨w.heap.size, 0, none⟩ = some (.string t.name) ∧ w'.cell? ⟨w.heap.size, 1, none⟩ = some (.int .i64 t.ver) ∧ w'.cell? ⟨w.heap.size, 2, none⟩ = some (.slice A m c) ∧ w'.cell? ⟨w.heap.size, 3, none⟩ = some (.slice A2 m2 c2) ∧ w'.cell? ⟨w.heap.size, 4, none⟩ = some (.int .u64 (t.rows : Int)) ∧ w'.cell? ⟨w.heap.size, 5, none⟩ = some (.int .u64 (t.ents : Int))) (first | go_keep | (refine ⟨?_, ?_, ?_, ?_, ?_, ?_⟩ <;> assumption))
        ((first
          | (go_at_call 18; refine (table_is (HTI.out _ HV.out.below) hc1 hc2).mono ?_; rintro e wx ⟨vx, rfl, hx, hb⟩; have HX := Lib.hid hx; have HV := Lib.hid (HV.out.step hb); have s0 : wx.cell? ⟨w.heap.size, 0, none⟩ = some (.string t.name) := HV.out.arg.cell 0; have s1 : wx.cell? ⟨w.heap.size, 1, none⟩ = some (.int .i64 t.ver) := HV.out.arg.cell 1; have s2 : wx.cell? ⟨w.heap.size, 2, none⟩ = some (.slice A m c) := HV.out.arg.cell 2; have s3 : wx.cell? ⟨w.heap.size, 3, none⟩ = some (.slice A2 m2 c2) := HV.out.arg.cell 3; have s4 : wx.cell? ⟨w.heap.size, 4, none⟩ = some (.int .u64 (t.rows : Int)) := HV.out.arg.cell 4; have s5 : wx.cell? ⟨w.heap.size, 5, none⟩ = some (.int .u64 (t.ents : Int)) := HV.out.arg.cell 5; clear hx hb)
          | (go_at_call 19; refine (HVW.out _ _ HX.out HV.out.below).mono ?_; rintro e wx ⟨rfl, hb⟩; have HV := Lib.hid (HV.out.step hb); have s0 : wx.cell? ⟨w.heap.size, 0, none⟩ = some (.string t.name) := HV.out.arg.cell 0; have s1 : wx.cell? ⟨w.heap.size, 1, none⟩ = some (.int .i64 t.ver) := HV.out.arg.cell 1; have s2 : wx.cell? ⟨w.heap.size, 2, none⟩ = some (.slice A m c) := HV.out.arg.cell 2; have s3 : wx.cell? ⟨w.heap.size, 3, none⟩ = some (.slice A2 m2 c2) := HV.out.arg.cell 3; have s4 : wx.cell? ⟨w.heap.size, 4, none⟩ = some (.int .u64 (t.rows : Int)) := HV.out.arg.cell 4; have s5 : wx.cell? ⟨w.heap.size, 5, none⟩ = some (.int .u64 (t.ents : Int)) := HV.out.arg.cell 5; clear hb)
          | (go_at_call 21; refine (HRV.out _ _ (HTI.out _ HV.out.below)).mono ?_; rintro e wx ⟨rfl, hb⟩; have HV := Lib.hid (HV.out.step hb); have s0 : wx.cell? ⟨w.heap.size, 0, none⟩ = some (.string t.name) := HV.out.arg.cell 0; have s1 : wx.cell? ⟨w.heap.size, 1, none⟩ = some (.int .i64 t.ver) := HV.out.arg.cell 1; have s2 : wx.cell? ⟨w.heap.size, 2, none⟩ = some (.slice A m c) := HV.out.arg.cell 2; have s3 : wx.cell? ⟨w.heap.size, 3, none⟩ = some (.slice A2 m2 c2) := HV.out.arg.cell 3; have s4 : wx.cell? ⟨w.heap.size, 4, none⟩ = some (.int .u64 (t.rows : Int)) := HV.out.arg.cell 4; have s5 : wx.cell? ⟨w.heap.size, 5, none⟩ = some (.int .u64 (t.ents : Int)) := HV.out.arg.cell 5; clear hb)
          | (go_at_call 22; refine (HFC.out _ _ HX.out).mono ?_; rintro e wx ⟨rfl, hb⟩; have HV := Lib.hid (HV.out.step hb); have s0 : wx.cell? ⟨w.heap.size, 0, none⟩ = some (.string t.name) := HV.out.arg.cell 0; have s1 : wx.cell? ⟨w.heap.size, 1, none⟩ = some (.int .i64 t.ver) := HV.out.arg.cell 1; have s2 : wx.cell? ⟨w.heap.size, 2, none⟩ = some (.slice A m c) := HV.out.arg.cell 2; have s3 : wx.cell? ⟨w.heap.size, 3, none⟩ = some (.slice A2 m2 c2) := HV.out.arg.cell 3; have s4 : wx.cell? ⟨w.heap.size, 4, none⟩ = some (.int .u64 (t.rows : Int)) := HV.out.arg.cell 4; have s5 : wx.cell? ⟨w.heap.size, 5, none⟩ = some (.int .u64 (t.ents : Int)) := HV.out.arg.cell 5; clear hb)
          | (go_at_call 23; refine (HRC.out _ _ (HTI.out _ HV.out.below)).mono ?_; rintro e wx ⟨rfl, hb⟩; have HV := Lib.hid (HV.out.step hb); have s0 : wx.cell? ⟨w.heap.size, 0, none⟩ = some (.string t.name) := HV.out.arg.cell 0; have s1 : wx.cell? ⟨w.heap.size, 1, none⟩ = some (.int .i64 t.ver) := HV.out.arg.cell 1; have s2 : wx.cell? ⟨w.heap.size, 2, none⟩ = some (.slice A m c) := HV.out.arg.cell 2; have s3 : wx.cell? ⟨w.heap.size, 3, none⟩ = some (.slice A2 m2 c2) := HV.out.arg.cell 3; have s4 : wx.cell? ⟨w.heap.size, 4, none⟩ = some (.int .u64 (t.rows : Int)) := HV.out.arg.cell 4; have s5 : wx.cell? ⟨w.heap.size, 5, none⟩ = some (.int .u64 (t.ents : Int)) := HV.out.arg.cell 5; clear hb)
          | (go_at_call 24; refine (HFI.out _ _ HX.out).mono ?_; rintro e wx ⟨rfl, hb⟩; have HV := Lib.hid (HV.out.step hb); have s0 : wx.cell? ⟨w.heap.size, 0, none⟩ = some (.string t.name) := HV.out.arg.cell 0; have s1 : wx.cell? ⟨w.heap.size, 1, none⟩ = some (.int .i64 t.ver) := HV.out.arg.cell 1; have s2 : wx.cell? ⟨w.heap.size, 2, none⟩ = some (.slice A m c) := HV.out.arg.cell 2; have s3 : wx.cell? ⟨w.heap.size, 3, none⟩ = some (.slice A2 m2 c2) := HV.out.arg.cell 3; have s4 : wx.cell? ⟨w.heap.size, 4, none⟩ = some (.int .u64 (t.rows : Int)) := HV.out.arg.cell 4; have s5 : wx.cell? ⟨w.heap.size, 5, none⟩ = some (.int .u64 (t.ents : Int)) := HV.out.arg.cell 5; clear hb)
          | (go_at_call 25; refine (HRI.out _ _ (HTI.out _ HV.out.below)).mono ?_; rintro e wx ⟨rfl, hb⟩; have HV := Lib.hid (HV.out.step hb); have s0 : wx.cell? ⟨w.heap.size, 0, none⟩ = some (.string t.name) := HV.out.arg.cell 0; have s1 : wx.cell? ⟨w.heap.size, 1, none⟩ = some (.int .i64 t.ver) := HV.out.arg.cell 1; have s2 : wx.cell? ⟨w.heap.size, 2, none⟩ = some (.slice A m c) := HV.out.arg.cell 2; have s3 : wx.cell? ⟨w.heap.size, 3, none⟩ = some (.slice A2 m2 c2) := HV.out.arg.cell 3; have s4 : wx.cell? ⟨w.heap.size, 4, none⟩ = some (.int .u64 (t.rows : Int)) := HV.out.arg.cell 4; have s5 : wx.cell? ⟨w.heap.size, 5, none⟩ = some (.int .u64 (t.ents : Int)) := HV.out.arg.cell 5; clear hb)
        ))
  go_wp2
  go_ret
  exact ⟨rfl, HV.out.below⟩
theorem schemaValid_law (w : World) (hT : Tabs w) {v1 : Value} (t : Tbl) (h1 : TblIs w v1 t ∧ TblIn t) {v2 : Value} (s : ByteArray) (h2 : v2 = .string s) :
    Calls Tryd.prog 5 #[v1, v2] w fun e w' => e = .returned (.bool true) ∧ Below w.heap.size w w' := by
  subst h2
  exact schemaValid_walk t v1 s w hT h1.1 h1.2
end Go.Proofs.YtophcoaikelopaaDoor
