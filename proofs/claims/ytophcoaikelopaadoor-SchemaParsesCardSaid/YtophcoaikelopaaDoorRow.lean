/- What the rows' proofs share: the tables that the rows list, the structs that come in, the witness's world. -/
import Derived.Test.YtophcoaikelopaaDoorCards
import Derived.Test.YtophcoaikelopaaDoorTie
import Derived.Test.YtophcoaikelopaaDoorWM
import Derived.ProofKit
import Derived.OpenShut
import Derived.Deep.DeepHandedRow
import Derived.Lib.LaidTab
import Derived.Lib.LaidU8T
import Derived.LaidSub
import Derived.MakeChecks
namespace Go.Proofs.YtophcoaikelopaaDoor
open Go.ChangeShapes Go.WideShapes Go.ChangeAt Go.RowKit

theorem ownK : ownKnob Tryd.prog.godebug = none := by kernel_rfl
theorem laidOut : laidOutB Tryd.prog = true := by kernel_rfl
def laidList : List (String × DataW Unit) := [("unicode/utf8.acceptRanges", Rows.laid_unicode_utf8_acceptRanges), ("unicode/utf8.first", Rows.laid_unicode_utf8_first)]
theorem firstData_eq : Rows.laid_unicode_utf8_first = Lib.firstData := by kernel_rfl
theorem acceptData_eq : Rows.laid_unicode_utf8_acceptRanges = Lib.acceptData := by kernel_rfl
theorem tabs {W : World} (h : laidMetH Tryd.prog laidList W) : Tabs W := by
  rw [MakeChecks.laidMetH_plain _ _ _ (by kernel_rfl)] at h
  have h4 := Lib.laidMet.reads h (.head _)
  have h3 := Lib.laidMet.reads h (.tail _ (.head _))
  rw [firstData_eq] at h3
  rw [acceptData_eq] at h4
  exact utf8Tabs_of_readsT (ρ := Tryd.laysValid_ren) (U8Types.of196 Tryd.laysValid) ⟨by kernel_rfl, by kernel_rfl, by kernel_rfl, by kernel_rfl, by kernel_rfl, by kernel_rfl, by kernel_rfl⟩ h3 h4

def firstObj : Obj → Obj
  | .cells _ t frozen => .cells ((List.range 256).map fun c => Value.int .u8 (Lib.firstT c)).toArray t frozen
  | o => o
def accObj : Obj → Obj
  | .cells _ t frozen => .cells ((List.range 16).flatMap fun i => [Value.int .u8 (Lib.accLo i), Value.int .u8 (Lib.accHi i)]).toArray t frozen
  | o => o
/-- A world for the witness: the settled one, the tables holding what their initialisers lay. -/
noncomputable def laidWorld (os : Os) : World :=
  { World.holding Tryd.prog os ⟨#[], #[], []⟩ with heap := ((World.holding Tryd.prog os ⟨#[], #[], []⟩).heap.modify 0 firstObj).modify 1 accObj }

def Val.cells (v : Val) : List Value := [.int .u8 (v.ty : Int), .bool v.null, .int .i64 v.int, .string v.text, .bool v.bool]
section
variable {H : Type} {enc : TypeId × Value → H} {w : World} {base : Nat} {sp : Nat → Bool} {held : Bool} {fuel : Nat} {x : DataW H × List MemPlace}
theorem u8_nat {n : Int} (h : (Lit.int .u8 n).wf = true) : ∃ k : Nat, n = k ∧ k < 256 := by
  have := bounds_u8 h
  exact ⟨n.toNat, by omega, by omega⟩
theorem one_at {cs : List Value} {j : Nat} {v : Value} (h : (cs.drop j).take 1 = [v]) : cs[j]? = some v := by
  have := congrArg (·[0]?) h
  simpa [List.getElem?_take, List.getElem?_drop] using this
theorem list5 {cs : List Value} {v0 v1 v2 v3 v4 : Value} (hl : cs.length = 5) (d0 : cs[0]? = some v0) (d1 : cs[1]? = some v1) (d2 : cs[2]? = some v2) (d3 : cs[3]? = some v3) (d4 : cs[4]? = some v4) : cs = [v0, v1, v2, v3, v4] := by
  match cs, hl with
  | [a0, a1, a2, a3, a4], _ =>
    simp at d0 d1 d2 d3 d4
    subst d0 d1 d2 d3 d4
    rfl
theorem list9 {cs : List Value} {v0 v1 v2 v3 v4 v5 v6 v7 v8 : Value} (hl : cs.length = 9) (d0 : cs[0]? = some v0) (d1 : cs[1]? = some v1) (d2 : cs[2]? = some v2) (d3 : cs[3]? = some v3) (d4 : (cs.drop 4).take 5 = [v4, v5, v6, v7, v8]) : cs = [v0, v1, v2, v3, v4, v5, v6, v7, v8] := by
  match cs, hl with
  | [a0, a1, a2, a3, a4, a5, a6, a7, a8], _ =>
    simp at d0 d1 d2 d3 d4
    obtain ⟨rfl, rfl, rfl, rfl, rfl⟩ := d4
    subst d0 d1 d2 d3
    rfl
theorem open_val {cs : List Value} (h : DataW.trod enc Tryd.prog w base sp held fuel 23 cs = some x) :
    ∃ v : Val, cs = v.cells ∧ v.text.size ≤ maxLen ∧ v.ty < 256 := by
  obtain ⟨xs, n, _, _, hlen, hxl, hf⟩ := DataW.trod_struct Tryd.underlying23 h
  have hl : cs.length = 5 := hlen.trans (by kernel_rfl)
  have hx5 : xs.length = 5 := hxl
  have get : ∀ j, j < 5 → ∃ y, xs[j]? = some y := fun j hj => ⟨xs[j], List.getElem?_eq_getElem (by omega)⟩
  obtain ⟨y0, e0⟩ := get 0 (by omega)
  obtain ⟨y1, e1⟩ := get 1 (by omega)
  obtain ⟨y2, e2⟩ := get 2 (by omega)
  obtain ⟨y3, e3⟩ := get 3 (by omega)
  obtain ⟨y4, e4⟩ := get 4 (by omega)
  obtain ⟨n0, c0, _, w0⟩ := DataW.trod_int Tryd.underlying5 ((hf 0 _ rfl).trans e0)
  obtain ⟨b1, c1, _⟩ := DataW.trod_bool Tryd.underlying4 ((hf 1 _ rfl).trans e1)
  obtain ⟨n2, c2, _, _⟩ := DataW.trod_int Tryd.underlying2 ((hf 2 _ rfl).trans e2)
  obtain ⟨s3, c3, _, hs3⟩ := DataW.trod_string Tryd.underlying9 ((hf 3 _ rfl).trans e3)
  obtain ⟨b4, c4, _⟩ := DataW.trod_bool Tryd.underlying4 ((hf 4 _ rfl).trans e4)
  obtain ⟨k0, rfl, hk0⟩ := u8_nat w0
  have k1 : Tryd.prog.cellsOf 5 = 1 := by kernel_rfl
  have k2 : Tryd.prog.cellsOf 4 = 1 := by kernel_rfl
  have k3 : Tryd.prog.cellsOf 2 = 1 := by kernel_rfl
  have k4 : Tryd.prog.cellsOf 9 = 1 := by kernel_rfl
  change (cs.drop 0).take (Tryd.prog.cellsOf 5) = _ at c0
  change (cs.drop 1).take (Tryd.prog.cellsOf 4) = _ at c1
  change (cs.drop 2).take (Tryd.prog.cellsOf 2) = _ at c2
  change (cs.drop 3).take (Tryd.prog.cellsOf 9) = _ at c3
  change (cs.drop 4).take (Tryd.prog.cellsOf 4) = _ at c4
  rw [k1] at c0
  rw [k2] at c1 c4
  rw [k3] at c2
  rw [k4] at c3
  have d0 := one_at c0
  have d1 := one_at c1
  have d2 := one_at c2
  have d3 := one_at c3
  have d4 := one_at c4
  refine ⟨⟨k0, b1, n2, s3, b4⟩, ?_, hs3, hk0⟩
  exact list5 hl d0 d1 d2 d3 d4
theorem open_col {cs : List Value} (h : DataW.trod enc Tryd.prog w base sp held fuel 25 cs = some x) :
    ∃ c : Col, cs = c.cells ∧ c.name.size ≤ maxLen ∧ c.d.text.size ≤ maxLen ∧ c.ty < 256 ∧ c.d.ty < 256 := by
  obtain ⟨xs, n, _, _, hlen, hxl, hf⟩ := DataW.trod_struct Tryd.underlying25 h
  have hl : cs.length = 9 := hlen.trans (by kernel_rfl)
  have hx5 : xs.length = 5 := hxl
  have get : ∀ j, j < 5 → ∃ y, xs[j]? = some y := fun j hj => ⟨xs[j], List.getElem?_eq_getElem (by omega)⟩
  obtain ⟨y0, e0⟩ := get 0 (by omega)
  obtain ⟨y1, e1⟩ := get 1 (by omega)
  obtain ⟨y2, e2⟩ := get 2 (by omega)
  obtain ⟨y3, e3⟩ := get 3 (by omega)
  obtain ⟨y4, e4⟩ := get 4 (by omega)
  obtain ⟨s0, c0, _, hs0⟩ := DataW.trod_string Tryd.underlying9 ((hf 0 _ rfl).trans e0)
  obtain ⟨n1, c1, _, w1⟩ := DataW.trod_int Tryd.underlying5 ((hf 1 _ rfl).trans e1)
  obtain ⟨b2, c2, _⟩ := DataW.trod_bool Tryd.underlying4 ((hf 2 _ rfl).trans e2)
  obtain ⟨n3, c3, _, _⟩ := DataW.trod_int Tryd.underlying3 ((hf 3 _ rfl).trans e3)
  obtain ⟨d, c4, hd, hdt⟩ := open_val ((hf 4 _ rfl).trans e4)
  obtain ⟨k1, rfl, hk1⟩ := u8_nat w1
  have q1 : Tryd.prog.cellsOf 5 = 1 := by kernel_rfl
  have q2 : Tryd.prog.cellsOf 4 = 1 := by kernel_rfl
  have q3 : Tryd.prog.cellsOf 3 = 1 := by kernel_rfl
  have q4 : Tryd.prog.cellsOf 9 = 1 := by kernel_rfl
  have q5 : Tryd.prog.cellsOf 23 = 5 := by kernel_rfl
  change (cs.drop 0).take (Tryd.prog.cellsOf 9) = _ at c0
  change (cs.drop 1).take (Tryd.prog.cellsOf 5) = _ at c1
  change (cs.drop 2).take (Tryd.prog.cellsOf 4) = _ at c2
  change (cs.drop 3).take (Tryd.prog.cellsOf 3) = _ at c3
  change (cs.drop 4).take (Tryd.prog.cellsOf 23) = _ at c4
  rw [q4] at c0
  rw [q1] at c1
  rw [q2] at c2
  rw [q3] at c3
  rw [q5] at c4
  have d0 := one_at c0
  have d1 := one_at c1
  have d2 := one_at c2
  have d3 := one_at c3
  refine ⟨⟨s0, k1, b2, n3, d⟩, ?_, hs0, hd, hk1, hdt⟩
  exact list9 hl d0 d1 d2 d3 c4
end
set_option maxRecDepth 100000 in
/-- A column that came in, by value. -/
theorem col_of {H : Type} {enc : TypeId × Value → H} {W : World} {b0 base : Nat} {sp : Nat → Bool} {held : Bool} {v : Value} {d : DataW H} {p : List MemPlace} {r : Reach}
    (hv : Value.okWide Tryd.prog W r b0 25 v) (h : DataW.Trod enc Tryd.prog W base sp held 25 v d p) : ∃ c : Col, v = c.val ∧ c.name.size ≤ maxLen ∧ c.d.text.size ≤ maxLen := by
  obtain ⟨cs, rfl, _⟩ := okWide_struct Tryd.underlying25 hv
  obtain ⟨fuel, hf⟩ := h
  obtain ⟨c, hc, h1, h2, _⟩ := open_col hf
  refine ⟨c, ?_, h1, h2⟩
  have : cs.toList = c.cells := hc
  have h3 : cs = c.cells.toArray := by rw [← this]
  rw [h3]
  rfl
set_option maxRecDepth 100000 in
theorem val_of {H : Type} {enc : TypeId × Value → H} {W : World} {b0 base : Nat} {sp : Nat → Bool} {held : Bool} {v : Value} {d : DataW H} {p : List MemPlace} {r : Reach}
    (hv : Value.okWide Tryd.prog W r b0 23 v) (h : DataW.Trod enc Tryd.prog W base sp held 23 v d p) : ∃ c : Val, v = c.val ∧ c.text.size ≤ maxLen := by
  obtain ⟨cs, rfl, _⟩ := okWide_struct Tryd.underlying23 hv
  obtain ⟨fuel, hf⟩ := h
  obtain ⟨c, hc, h1, _⟩ := open_val hf
  refine ⟨c, ?_, h1⟩
  have : cs.toList = c.cells := hc
  have h3 : cs = c.cells.toArray := by rw [← this]
  rw [h3]
  rfl
set_option maxRecDepth 100000 in
theorem str_of {H : Type} {enc : TypeId × Value → H} {W : World} {b0 base : Nat} {sp : Nat → Bool} {held : Bool} {v : Value} {d : DataW H} {p : List MemPlace} {r : Reach}
    (hv : Value.okWide Tryd.prog W r b0 9 v) (h : DataW.Trod enc Tryd.prog W base sp held 9 v d p) : ∃ s : ByteArray, v = .string s := by
  have _ := h
  exact okWide_string Tryd.underlying9 hv
set_option maxRecDepth 100000 in
theorem u8_of {H : Type} {enc : TypeId × Value → H} {W : World} {b0 base : Nat} {sp : Nat → Bool} {held : Bool} {v : Value} {d : DataW H} {p : List MemPlace} {r : Reach}
    (hv : Value.okWide Tryd.prog W r b0 5 v) (h : DataW.Trod enc Tryd.prog W base sp held 5 v d p) : ∃ n : Nat, v = .int .u8 (n : Int) ∧ n < 256 := by
  obtain ⟨n, hs, _, _, hw⟩ := open_int Tryd.underlying5 hv h
  obtain ⟨k, rfl, hk⟩ := u8_nat hw
  exact ⟨k, hs, hk⟩
end Go.Proofs.YtophcoaikelopaaDoor
