/- What the rows' proofs share: the table that the rows list, the slices that come in, the witness's world. -/
import Derived.Test.YtkpfciacfajddaaDoorCards
import Derived.Test.YtkpfciacfajddaaDoorTie
import Derived.Test.YtkpfciacfajddaaDoorLawA
import Derived.ProofKit
import Derived.OpenShut
import Derived.Deep.DeepHandedRow
import Derived.Lib.LaidTab
namespace Go.Proofs.YtkpfciacfajddaaDoor
open Go.ChangeShapes Go.WideShapes Go.ChangeAt Go.RowKit

theorem own : ownKnob Tryd.prog.godebug = none := by kernel_rfl
theorem laidOut : laidOutB Tryd.prog = true := by kernel_rfl
theorem gTab : Tryd.prog.globalNamed "bedrock/crc.nibbles" = some 0 := by kernel_rfl
theorem gTabType : (Tryd.prog.globals[0]?).map (·.type) = some 46 := by kernel_rfl
theorem cells46 : Tryd.prog.cellsOf 46 = 16 := by kernel_rfl
theorem cells25 : Tryd.prog.cellsOf 25 = 1 := by kernel_rfl
def laidList : List (String × DataW Unit) := [("bedrock/crc.nibbles", Rows.laid_bedrock_crc_nibbles)]
theorem table {W : World} (h : laidMetH Tryd.prog laidList W) : Tab W := by
  have ht : Lib.TabIs Tryd.prog W "bedrock/crc.nibbles" .u32 (Crc.nib.map fun (n : Nat) => (n : Int)) :=
    Lib.tabIs_of_head (rest := []) gTab gTabType Tryd.underlying46 Tryd.underlying25 cells25 cells46 h
  intro i hi
  have := ht.cell gTab i (by simpa [Crc.nib] using hi)
  rw [this]
  have hl : i < Crc.nib.length := by simpa [Crc.nib] using hi
  simp [List.getD, hl]

/-- A world for the witness: the settled one, the table (block 0) holding what its initialiser lays. -/
noncomputable def laidWorld (os : Os) : World :=
  { World.holding Tryd.prog os ⟨#[], #[], []⟩ with heap := (World.holding Tryd.prog os ⟨#[], #[], []⟩).heap.modify 0 fun
      | .cells _ t frozen => .cells #[.int .u32 0, .int .u32 274646895, .int .u32 549293790, .int .u32 820201905, .int .u32 1098587580, .int .u32 1361435347, .int .u32 1640403810, .int .u32 1905808397, .int .u32 2197175160, .int .u32 2460548119, .int .u32 2722870694, .int .u32 2987750089, .int .u32 3280807620, .int .u32 3553878443, .int .u32 3811616794, .int .u32 4084100981] t frozen
      | o => o }

/-- A slice of integers that came in, opened. -/
theorem ints_of {H : Type} {enc : TypeId × Value → H} {W : World} {base : Nat} {sp : Nat → Bool} {held : Bool} {t e : TypeId} {k : IntKind} {a : Option Addr} {len cap : Nat} {d : DataW H} {p : List MemPlace}
    (ht : Tryd.prog.underlying t = some (.slice e)) (he : Tryd.prog.underlying e = some (.int k)) (hc : Tryd.prog.cellsOf e = 1)
    (h : DataW.Trod enc Tryd.prog W base sp held t (.slice a len cap) d p) :
    ∃ zs : List Int, Reads W W.heap.size 1 a len (zs.map (Value.int k)) ∧ len ≤ cap ∧ cap ≤ maxLen ∧ ∀ n ∈ zs, (Lit.int k n).wf = true := by
  obtain ⟨fuel, hf⟩ := h
  rcases open_ints ht he hc hf with ⟨hcs, _⟩ | ⟨x, l, c, zs, hcs, _, hl, hm, hz, hx, hcell, hwz⟩
  · simp [Value.cells] at hcs
    obtain ⟨rfl, rfl, rfl⟩ := hcs
    exact ⟨[], Reads.none_, Nat.le_refl _, Nat.zero_le _, fun _ hn => by cases hn⟩
  · simp [Value.cells] at hcs
    obtain ⟨rfl, rfl, rfl⟩ := hcs
    have hz' : len ≤ zs.length := by rw [hz]; split <;> omega
    refine ⟨zs.take len, ⟨by rw [List.length_map, List.length_take]; omega, fun hn => ⟨_, rfl, ?_, fun j u hu => ?_⟩⟩, hl, hm, fun n hn => hwz n (List.mem_of_mem_take hn)⟩
    · have := World.block_lt_of_cell? _ _ (hcell 0 (by omega))
      rw [block_of_add] at this
      exact this
    · simp only [List.getElem?_map, Option.map_eq_some_iff] at hu
      obtain ⟨z, hzj, rfl⟩ := hu
      rw [List.getElem?_take] at hzj
      split at hzj
      · obtain ⟨hj, rfl⟩ := List.getElem?_eq_some_iff.1 hzj
        rw [hcell j hj]
        simp [List.getD, hj]
      · cases hzj
theorem bytes_of {H : Type} {enc : TypeId × Value → H} {W : World} {base : Nat} {sp : Nat → Bool} {held : Bool} {a : Option Addr} {len cap : Nat} {d : DataW H} {p : List MemPlace}
    (h : DataW.Trod enc Tryd.prog W base sp held 22 (.slice a len cap) d p) : ∃ l, In W a len cap l := by
  obtain ⟨zs, hr, hl, hm, hwz⟩ := ints_of Tryd.underlying22 Tryd.underlying5 (by kernel_rfl) h
  have hb : ∀ z ∈ zs, 0 ≤ z ∧ z ≤ 255 := fun z hz => bounds_u8 (hwz z hz)
  refine ⟨zs.map Int.toNat, ?_, ?_, hl, hm⟩
  · intro b hbm
    obtain ⟨z, hz, rfl⟩ := List.mem_map.1 hbm
    have := hb z hz
    omega
  · have : u8s (zs.map Int.toNat) = zs.map (Value.int .u8) := by
      simp only [u8s, List.map_map]
      refine List.map_congr_left fun z hz => ?_
      have := hb z hz
      simp only [Function.comp]
      rw [Int.toNat_of_nonneg this.1]
    rw [this]
    exact hr
end Go.Proofs.YtkpfciacfajddaaDoor
