/- Lists of columns and bytes that came in, opened. -/
import Derived.Test.YtophcoaikelopaaDoorRowT
import Derived.ProofKit
namespace Go.Proofs.YtophcoaikelopaaDoor
open Go.ChangeShapes Go.WideShapes Go.ChangeAt Go.RowKit
/-- A list of columns as it comes in. -/
def ColsIs (w : World) (v : Value) (l : List Col) : Prop := ∃ (A : Option Addr) (n c : Nat), v = .slice A n c ∧ Reads w w.heap.size 9 A n (colCells l) ∧ n ≤ c ∧ ∀ y ∈ l, ColIn y
set_option maxRecDepth 100000 in
theorem cols_of {H : Type} {enc : TypeId × Value → H} {W : World} {b0 base : Nat} {sp : Nat → Bool} {held : Bool} {v : Value} {d : DataW H} {p : List MemPlace} {r : Reach}
    (_hv : Value.okWide Tryd.prog W r b0 40 v) (h : DataW.Trod enc Tryd.prog W base sp held 40 v d p) : ∃ l : List Col, ColsIs W v l := by
  obtain ⟨fuel, hf⟩ := h
  have hcv : v.cells.toList = [v] := by
    obtain ⟨a, n, c, rfl⟩ := okWide_slice Tryd.underlying40 _hv
    rfl
  rw [hcv] at hf
  obtain ⟨A, n, c, l, hv, h1, h2, _, h3⟩ := open_cols hf
  exact ⟨l, A, n, c, hv, h1, h2, h3⟩
/-- Bytes as they come in. -/
def BytesIs (w : World) (v : Value) (l : List UInt8) : Prop := ∃ (A : Option Addr) (n c : Nat), v = .slice A n c ∧ Reads w w.heap.size 1 A n (bv l) ∧ n ≤ c ∧ c ≤ maxLen
set_option maxRecDepth 100000 in
theorem bytes_of {H : Type} {enc : TypeId × Value → H} {W : World} {b0 base : Nat} {sp : Nat → Bool} {held : Bool} {v : Value} {d : DataW H} {p : List MemPlace} {r : Reach}
    (hv : Value.okWide Tryd.prog W r b0 60 v) (h : DataW.Trod enc Tryd.prog W base sp held 60 v d p) : ∃ l : List UInt8, BytesIs W v l := by
  obtain ⟨a, len, cap, rfl⟩ := okWide_slice Tryd.underlying60 hv
  obtain ⟨fuel, hf⟩ := h
  rcases open_ints Tryd.underlying60 Tryd.underlying5 (by kernel_rfl) hf with ⟨hcs, _⟩ | ⟨x, l, c, zs, hcs, _, hl, hm, hz, hx, hcell, hwz⟩
  · simp [Value.cells] at hcs
    obtain ⟨rfl, rfl, rfl⟩ := hcs
    exact ⟨[], none, 0, 0, rfl, Reads.none_, Nat.le_refl _, Nat.zero_le _⟩
  · simp [Value.cells] at hcs
    obtain ⟨rfl, rfl, rfl⟩ := hcs
    have hz' : len ≤ zs.length := by rw [hz]; split <;> omega
    have hb : ∀ z ∈ zs, 0 ≤ z ∧ z ≤ 255 := fun z hz => bounds_u8 (hwz z hz)
    have hbv : bv ((zs.take len).map fun z => UInt8.ofNat z.toNat) = (zs.take len).map (Value.int .u8) := by
      simp only [bv, List.map_map]
      refine List.map_congr_left fun z hz => ?_
      have := hb z (List.mem_of_mem_take hz)
      simp only [Function.comp]
      rw [UInt8.toNat_ofNat', Nat.mod_eq_of_lt (by omega), Int.toNat_of_nonneg this.1]
    refine ⟨(zs.take len).map fun z => UInt8.ofNat z.toNat, _, len, cap, rfl, ⟨?_, fun hn => ⟨_, rfl, ?_, fun j u hu => ?_⟩⟩, hl, hm⟩
    · rw [bv_len, List.length_map, List.length_take]; omega
    · have := World.block_lt_of_cell? _ _ (hcell 0 (by omega))
      rw [block_of_add] at this
      exact this
    · rw [hbv] at hu
      simp only [List.getElem?_map, Option.map_eq_some_iff] at hu
      obtain ⟨z, hzj, rfl⟩ := hu
      rw [List.getElem?_take] at hzj
      split at hzj
      · obtain ⟨hj, rfl⟩ := List.getElem?_eq_some_iff.1 hzj
        rw [hcell j hj]
        simp [List.getD, hj]
      · cases hzj
end Go.Proofs.YtophcoaikelopaaDoor
