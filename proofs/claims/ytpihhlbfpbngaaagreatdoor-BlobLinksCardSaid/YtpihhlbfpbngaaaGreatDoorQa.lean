/- The walks and laws that the claim leans on. -/
import Derived.Test.YtpihhlbfpbngaaaGreatDoorJae
import Derived.Test.YtpihhlbfpbngaaaGreatDoorCards
import Derived.Test.YtpihhlbfpbngaaaGreatDoorTie
import Derived.WalkSpells
import Derived.WalkLawsBesides
import Derived.Deep.AppendLies
import Derived.Deep.OwnRows
import Derived.BigQuiet
import Derived.Lib.Hide
import Derived.StillTail
import Derived.Deep.RegionHeld3
import Derived.Deep.CutBlock
import Derived.Lib.ItoaNum
import Derived.Sort.Row
import Derived.Lib.AppendZeros
import Derived.ProofKit
import Derived.OpenShut
import Derived.Deep.DeepHandedRow
import Derived.Lib.LaidTab
namespace Go.Proofs.YtpihhlbfpbngaaaGreatDoor
open Go.ChangeShapes Go.WideShapes Go.ChangeAt Go.RowKit
section
variable {H : Type} {enc : TypeId × Value → H} {W : World} {b0 base : Nat} {sp : Nat → Bool} {held : Bool} {v : Value} {d : DataW H} {p : List MemPlace} {r : Reach}
set_option maxRecDepth 100000 in
theorem u8_of (hv : Value.okWide Tryz.prog W r b0 5 v) (h : DataW.Trod enc Tryz.prog W base sp held 5 v d p) : ∃ n : Nat, v = .int .u8 (n : Int) ∧ n < 256 := by
  obtain ⟨n, hs, _, _, hw⟩ := open_int Tryz.underlying5 hv h
  have hb : 0 ≤ n ∧ n < 256 := by
    have hm : IntKind.u8.min = 0 := by decide
    have hx : IntKind.u8.max = 255 := by decide
    simp only [Lit.wf, hm, hx, Bool.and_eq_true, decide_eq_true_eq] at hw
    omega
  exact ⟨n.toNat, by rw [Int.toNat_of_nonneg hb.1]; exact hs, by omega⟩
set_option maxRecDepth 100000 in
theorem u64_of (hv : Value.okWide Tryz.prog W r b0 26 v) (h : DataW.Trod enc Tryz.prog W base sp held 26 v d p) : ∃ n : Nat, v = .int .u64 (n : Int) ∧ n < 18446744073709551616 := by
  obtain ⟨n, hs, _, _, hw⟩ := open_int Tryz.underlying26 hv h
  have hb : 0 ≤ n ∧ n < 18446744073709551616 := by
    have hm : IntKind.u64.min = 0 := by decide
    have hx : IntKind.u64.max = 18446744073709551615 := by decide
    simp only [Lit.wf, hm, hx, Bool.and_eq_true, decide_eq_true_eq] at hw
    omega
  exact ⟨n.toNat, by rw [Int.toNat_of_nonneg hb.1]; exact hs, by omega⟩
end
end Go.Proofs.YtpihhlbfpbngaaaGreatDoor
