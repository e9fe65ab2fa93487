/- The walks and laws that the claim leans on. -/
import Derived.Test.YtpihhlbfpbngaaaGreatDoorJLcub
import Derived.Test.YtpihhlbfpbngaaaGreatDoorCards
import Derived.Test.YtpihhlbfpbngaaaGreatDoorTie
import Derived.WalkSpells
import Derived.WalkLawsBesides
import Derived.Deep.AppendLies
import Derived.Deep.OwnRows
import Derived.BigQuiet
import Derived.Lib.Hide
import Derived.StillTail
import Derived.Deep.RegionHeld3
import Derived.Deep.CutBlock
import Derived.Lib.ItoaNum
import Derived.Sort.Row
import Derived.Lib.AppendZeros
import Derived.ProofKit
import Derived.OpenShut
import Derived.Deep.DeepHandedRow
import Derived.Lib.LaidTab
namespace Go.Proofs.YtpihhlbfpbngaaaGreatDoor
open Go.ChangeShapes Go.WideShapes Go.ChangeAt Go.RowKit
theorem one_at3 {cs : List Value} {j : Nat} {v : Value} (h : (cs.drop j).take 1 = [v]) : cs[j]? = some v := by
  have h0 : ((cs.drop j).take 1)[0]? = some v := by rw [h]; rfl
  rw [List.getElem?_take] at h0
  simpa [List.getElem?_drop] using h0
theorem three_cells {cs : List Value} {v0 v1 v2 : Value} (hl : cs.length = 3) (d0 : cs[0]? = some v0) (d1 : cs[1]? = some v1) (d2 : cs[2]? = some v2) : cs = [v0, v1, v2] := by
  match cs, hl with
  | [a0, a1, a2], _ =>
    simp at d0 d1 d2
    subst d0 d1 d2
    rfl
section
variable {H : Type} {enc : TypeId × Value → H} {W : World} {b0 base : Nat} {sp : Nat → Bool} {held : Bool} {v : Value} {d : DataW H} {p : List MemPlace} {r : Reach}
theorem cellsBu : Tryz.prog.cellsOf 52 = 3 := by kernel_rfl
theorem cellsBu8 : Tryz.prog.cellsOf 5 = 1 := by kernel_rfl
theorem cellsBi : Tryz.prog.cellsOf 3 = 1 := by kernel_rfl
theorem cellsBu32 : Tryz.prog.cellsOf 50 = 1 := by kernel_rfl
set_option maxRecDepth 100000 in
theorem bu_of (hv : Value.okWide Tryz.prog W r b0 52 v) (h : DataW.Trod enc Tryz.prog W base sp held 52 v d p) : ∃ u : Nat × Int × Nat, v = buV u ∧ BuOk u := by
  obtain ⟨cs, rfl, hs, _⟩ : ∃ cs, v = .agg cs ∧ cs.size = Tryz.prog.cellsOf 52 ∧ Row.okWide Tryz.prog W r b0 52 cs := by
    simpa only [Value.okWide, Tryz.underlying52] using hv
  obtain ⟨m, hm⟩ := h
  obtain ⟨xs, n, _, _, hlen, hxl, hf⟩ := DataW.trod_struct Tryz.underlying52 hm
  have hx3 : xs.length = 3 := hxl
  have get : ∀ j, j < 3 → ∃ y, xs[j]? = some y := fun j hj => ⟨xs[j], List.getElem?_eq_getElem (by omega)⟩
  obtain ⟨y0, e0⟩ := get 0 (by omega)
  obtain ⟨y1, e1⟩ := get 1 (by omega)
  obtain ⟨y2, e2⟩ := get 2 (by omega)
  obtain ⟨a0, c0, _, w0⟩ := DataW.trod_int Tryz.underlying5 ((hf 0 _ rfl).trans e0)
  obtain ⟨a1, c1, _, w1⟩ := DataW.trod_int Tryz.underlying3 ((hf 1 _ rfl).trans e1)
  obtain ⟨a2, c2, _, w2⟩ := DataW.trod_int Tryz.underlying50 ((hf 2 _ rfl).trans e2)
  have hcs : (Value.agg cs).cells.toList = cs.toList := rfl
  rw [hcs] at hlen c0 c1 c2
  change (cs.toList.drop 0).take (Tryz.prog.cellsOf 5) = _ at c0
  change (cs.toList.drop 1).take (Tryz.prog.cellsOf 3) = _ at c1
  change (cs.toList.drop 2).take (Tryz.prog.cellsOf 50) = _ at c2
  rw [cellsBu8] at c0
  rw [cellsBi] at c1
  rw [cellsBu32] at c2
  have h0 : 0 ≤ a0 ∧ a0 < 256 := by
    have hm : IntKind.u8.min = 0 := by decide
    have hx : IntKind.u8.max = 255 := by decide
    simp only [Lit.wf, hm, hx, Bool.and_eq_true, decide_eq_true_eq] at w0
    omega
  have h1 : -9223372036854775808 ≤ a1 ∧ a1 ≤ 9223372036854775807 := by
    have hm : IntKind.i64.min = -9223372036854775808 := by decide
    have hx : IntKind.i64.max = 9223372036854775807 := by decide
    simp only [Lit.wf, hm, hx, Bool.and_eq_true, decide_eq_true_eq] at w1
    omega
  have h2 : 0 ≤ a2 ∧ a2 < 4294967296 := by
    have hm : IntKind.u32.min = 0 := by decide
    have hx : IntKind.u32.max = 4294967295 := by decide
    simp only [Lit.wf, hm, hx, Bool.and_eq_true, decide_eq_true_eq] at w2
    omega
  have he := three_cells (hlen.trans cellsBu) (one_at3 (by simpa using c0)) (one_at3 (by simpa using c1)) (one_at3 (by simpa using c2))
  refine ⟨(a0.toNat, a1, a2.toNat), ?_, by show a0.toNat < 256; omega, h1.1, h1.2, by show a2.toNat < 4294967296; omega⟩
  unfold buV
  congr 1
  apply Array.ext'
  rw [he]
  show _ = [Value.int .u8 ((a0.toNat : Nat) : Int), .int .i64 a1, .int .u32 ((a2.toNat : Nat) : Int)]
  rw [Int.toNat_of_nonneg h0.1, Int.toNat_of_nonneg h2.1]
end
end Go.Proofs.YtpihhlbfpbngaaaGreatDoor
