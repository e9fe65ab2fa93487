/- A slice of words that came in, opened. -/
import Derived.Test.YtkpfciacfajddaaDoorRow
import Derived.Test.YtkpfciacfajddaaDoorLawD
namespace Go.Proofs.YtkpfciacfajddaaDoor
open Go.ChangeShapes Go.WideShapes Go.ChangeAt Go.RowKit
theorem words_of {H : Type} {enc : TypeId × Value → H} {W : World} {base : Nat} {sp : Nat → Bool} {held : Bool} {a : Option Addr} {len cap : Nat} {d : DataW H} {p : List MemPlace}
    (h : DataW.Trod enc Tryd.prog W base sp held 33 (.slice a len cap) d p) : ∃ l, InW W a len cap l := by
  obtain ⟨zs, hr, hl, hm, hwz⟩ := ints_of Tryd.underlying33 Tryd.underlying42 (by kernel_rfl) h
  have hb : ∀ z ∈ zs, 0 ≤ z ∧ z ≤ 18446744073709551615 := fun z hz => bounds_u64 (hwz z hz)
  refine ⟨zs.map Int.toNat, ?_, ?_, hl, hm⟩
  · intro b hbm
    obtain ⟨z, hz, rfl⟩ := List.mem_map.1 hbm
    have := hb z hz
    omega
  · have : u64s (zs.map Int.toNat) = zs.map (Value.int .u64) := by
      simp only [u64s, List.map_map]
      refine List.map_congr_left fun z hz => ?_
      have := hb z hz
      simp only [Function.comp]
      rw [Int.toNat_of_nonneg this.1]
    rw [this]
    exact hr
end Go.Proofs.YtkpfciacfajddaaDoor
