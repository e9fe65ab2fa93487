/- Tables, lists of columns and bytes that came in. -/
import Derived.Test.YtophcoaikelopaaDoorRow
import Derived.Test.YtophcoaikelopaaDoorWB
import Derived.Test.YtophcoaikelopaaDoorWL
import Derived.Deep.Slices
import Derived.Deep.Fields
namespace Go.Proofs.YtophcoaikelopaaDoor
open Go.ChangeShapes Go.WideShapes Go.ChangeAt Go.RowKit

/-- Elements that were read one by one are a list. -/
theorem reads_elems {α : Type} (cells : α → List Value) (size : Nat) (hs : 0 < size) (hlen : ∀ x, (cells x).length = size) (w : World) (a : Addr) (ok : α → Prop) :
    ∀ n, (∀ i, i < n → ∃ x, ok x ∧ ∀ j, j < size → w.cell? (a.add (i * size + j)) = (cells x)[j]?) →
      ∃ l : List α, l.length = n ∧ (∀ x ∈ l, ok x) ∧ (l.flatMap cells).length = n * size ∧ ∀ j u, (l.flatMap cells)[j]? = some u → w.cell? (a.add j) = some u
  | 0, _ => ⟨[], rfl, (fun _ h => by cases h), by simp, (fun j u h => by simp at h)⟩
  | n + 1, h => by
    obtain ⟨l, h1, h2, h3, h4⟩ := reads_elems cells size hs hlen w a ok n (fun i hi => h i (by omega))
    obtain ⟨x, hx, hc⟩ := h n (by omega)
    refine ⟨l ++ [x], by simp [h1], fun y hy => ?_, ?_, fun j u hu => ?_⟩
    · rcases List.mem_append.1 hy with hy | hy
      · exact h2 y hy
      · rw [List.mem_singleton] at hy; subst hy; exact hx
    · simp only [List.flatMap_append, List.length_append, h3, List.flatMap_cons, List.flatMap_nil, List.append_nil, hlen]
      rw [Nat.succ_mul]
    · simp only [List.flatMap_append, List.flatMap_cons, List.flatMap_nil, List.append_nil] at hu
      rcases Nat.lt_or_ge j (n * size) with hj | hj
      · rw [List.getElem?_append_left (by omega)] at hu
        exact h4 j u hu
      · rw [List.getElem?_append_right (by omega), h3] at hu
        have hjl : j - n * size < size := by
          have := (List.getElem?_eq_some_iff.1 hu).1
          rw [hlen] at this; exact this
        have := hc (j - n * size) hjl
        rw [show n * size + (j - n * size) = j by omega] at this
        rw [this]; exact hu
theorem idx2 {cs : List Value} {v0 v1 : Value} (hl : cs.length = 2) (d0 : cs[0]? = some v0) (d1 : cs[1]? = some v1) : cs = [v0, v1] := by
  match cs, hl with
  | [a0, a1], _ =>
    simp at d0 d1
    subst d0 d1
    rfl
/-- A column as it comes in. -/
def ColIn (c : Col) : Prop := c.name.size ≤ maxLen ∧ c.d.text.size ≤ maxLen ∧ c.ty < 256 ∧ c.d.ty < 256
section
variable {H : Type} {enc : TypeId × Value → H} {w : World} {base : Nat} {sp : Nat → Bool} {held : Bool} {fuel : Nat} {x : DataW H × List MemPlace}
theorem open_idx {cs : List Value} (h : DataW.trod enc Tryd.prog w base sp held fuel 78 cs = some x) : ∃ c : Idx, cs = c.cells := by
  obtain ⟨xs, n, _, _, hlen, hxl, hf⟩ := DataW.trod_struct Tryd.underlying78 h
  have hl : cs.length = 2 := hlen.trans (by kernel_rfl)
  have hx5 : xs.length = 2 := hxl
  have get : ∀ j, j < 2 → ∃ y, xs[j]? = some y := fun j hj => ⟨xs[j], List.getElem?_eq_getElem (by omega)⟩
  obtain ⟨y0, e0⟩ := get 0 (by omega)
  obtain ⟨y1, e1⟩ := get 1 (by omega)
  obtain ⟨s0, c0, _, _⟩ := DataW.trod_string Tryd.underlying9 ((hf 0 _ rfl).trans e0)
  obtain ⟨b1, c1, _⟩ := DataW.trod_bool Tryd.underlying4 ((hf 1 _ rfl).trans e1)
  have q2 : Tryd.prog.cellsOf 4 = 1 := by kernel_rfl
  have q4 : Tryd.prog.cellsOf 9 = 1 := by kernel_rfl
  change (cs.drop 0).take (Tryd.prog.cellsOf 9) = _ at c0
  change (cs.drop 1).take (Tryd.prog.cellsOf 4) = _ at c1
  rw [q4] at c0
  rw [q2] at c1
  exact ⟨⟨s0, b1⟩, idx2 hl (one_at c0) (one_at c1)⟩
theorem open_cols {v : Value} (h : DataW.trod enc Tryd.prog w base sp held fuel 40 [v] = some x) :
    ∃ (A : Option Addr) (n c : Nat) (l : List Col), v = .slice A n c ∧ Reads w w.heap.size 9 A n (colCells l) ∧ n ≤ c ∧ c ≤ maxLen ∧ ∀ y ∈ l, ColIn y := by
  rcases Go.Deep.open_slice Tryd.underlying40 h with ⟨hcs, _⟩ | ⟨a, len, cap, m, n, D, Pl, hcs, hb, hl, hm, hmm, hx, hi⟩
  · obtain rfl : v = .slice none 0 0 := by simpa using hcs
    exact ⟨none, 0, 0, [], rfl, Reads.none_, Nat.le_refl _, Nat.zero_le _, fun _ h => by cases h⟩
  · obtain rfl : v = .slice (some a) len cap := by simpa using hcs
    have hC : Tryd.prog.cellsOf 25 = 9 := by kernel_rfl
    have hlm : len ≤ m := by rw [hmm]; split <;> omega
    obtain ⟨l, h1, h2, h3, h4⟩ := reads_elems Col.cells 9 (by omega) Col.cells_len w a ColIn len (fun i hil => by
      obtain ⟨cs', hc, ht'⟩ := hi i (by omega)
      rw [hC] at hc
      obtain ⟨c, rfl, hn, ht, hy, hdy⟩ := open_col ht'
      obtain ⟨_, hcl, hat⟩ := World.cells?_some hc
      exact ⟨c, ⟨hn, ht, hy, hdy⟩, fun j hj => by rw [← Go.Deep.add_add]; exact hat j hj⟩)
    refine ⟨some a, len, cap, l, rfl, ⟨h3, fun hpos => ⟨a, rfl, ?_, h4⟩⟩, hl, hm, h2⟩
    have hl9 : 0 < (l.flatMap Col.cells).length := by rw [h3]; omega
    have := World.block_lt_of_cell? _ _ (h4 0 _ (List.getElem?_eq_getElem hl9))
    rw [block_of_add] at this
    exact this
theorem open_idxs {v : Value} (h : DataW.trod enc Tryd.prog w base sp held fuel 41 [v] = some x) :
    ∃ (A : Option Addr) (n c : Nat) (l : List Idx), v = .slice A n c ∧ Reads w w.heap.size 2 A n (idxCells l) ∧ n ≤ c ∧ c ≤ maxLen := by
  rcases Go.Deep.open_slice Tryd.underlying41 h with ⟨hcs, _⟩ | ⟨a, len, cap, m, n, D, Pl, hcs, hb, hl, hm, hmm, hx, hi⟩
  · obtain rfl : v = .slice none 0 0 := by simpa using hcs
    exact ⟨none, 0, 0, [], rfl, Reads.none_, Nat.le_refl _, Nat.zero_le _⟩
  · obtain rfl : v = .slice (some a) len cap := by simpa using hcs
    have hC : Tryd.prog.cellsOf 78 = 2 := by kernel_rfl
    have hlm : len ≤ m := by rw [hmm]; split <;> omega
    obtain ⟨l, h1, h2, h3, h4⟩ := reads_elems Idx.cells 2 (by omega) Idx.cells_len w a (fun _ => True) len (fun i hil => by
      obtain ⟨cs', hc, ht'⟩ := hi i (by omega)
      rw [hC] at hc
      obtain ⟨c, rfl⟩ := open_idx ht'
      obtain ⟨_, hcl, hat⟩ := World.cells?_some hc
      exact ⟨c, trivial, fun j hj => by rw [← Go.Deep.add_add]; exact hat j hj⟩)
    refine ⟨some a, len, cap, l, rfl, ⟨h3, fun hpos => ⟨a, rfl, ?_, h4⟩⟩, hl, hm⟩
    have hl9 : 0 < (l.flatMap Idx.cells).length := by rw [h3]; omega
    have := World.block_lt_of_cell? _ _ (h4 0 _ (List.getElem?_eq_getElem hl9))
    rw [block_of_add] at this
    exact this
end
/-- A table as it comes in. -/
structure TblIn (t : Tbl) : Prop where
  name : t.name.size ≤ maxLen
  cols : ∀ c ∈ t.cols, ColIn c
set_option maxRecDepth 100000 in
theorem tbl_of {H : Type} {enc : TypeId × Value → H} {W : World} {b0 base : Nat} {sp : Nat → Bool} {held : Bool} {v : Value} {d : DataW H} {p : List MemPlace} {r : Reach}
    (hv : Value.okWide Tryd.prog W r b0 44 v) (h : DataW.Trod enc Tryd.prog W base sp held 44 v d p) : ∃ t : Tbl, TblIs W v t ∧ TblIn t := by
  obtain ⟨cs, rfl, hcsz⟩ := okWide_struct Tryd.underlying44 hv
  obtain ⟨fuel, hf0⟩ := h
  obtain ⟨xs, n, _, _, hlen, hxl, hf⟩ := DataW.trod_struct Tryd.underlying44 hf0
  have get : ∀ j, j < 6 → ∃ y, xs[j]? = some y := fun j hj => ⟨xs[j]'(by rw [hxl]; exact hj), List.getElem?_eq_getElem (by rw [hxl]; exact hj)⟩
  obtain ⟨l⟩ := cs
  have hl6 : l.length = 6 := by have : Tryd.prog.cellsOf 44 = 6 := by kernel_rfl
                                rw [this] at hcsz; simpa using hcsz
  obtain ⟨c0, c1, c2, c3, c4, c5, rfl⟩ : ∃ c0 c1 c2 c3 c4 c5, l = [c0, c1, c2, c3, c4, c5] := by
    match l, hl6 with
    | [c0, c1, c2, c3, c4, c5], _ => exact ⟨c0, c1, c2, c3, c4, c5, rfl⟩
  obtain ⟨y0, e0⟩ := get 0 (by omega)
  obtain ⟨y1, e1⟩ := get 1 (by omega)
  obtain ⟨y2, e2⟩ := get 2 (by omega)
  obtain ⟨y3, e3⟩ := get 3 (by omega)
  obtain ⟨y4, e4⟩ := get 4 (by omega)
  obtain ⟨y5, e5⟩ := get 5 (by omega)
  have g0 := (hf 0 _ rfl).trans e0
  have g1 := (hf 1 _ rfl).trans e1
  have g2 := (hf 2 _ rfl).trans e2
  have g3 := (hf 3 _ rfl).trans e3
  have g4 := (hf 4 _ rfl).trans e4
  have g5 := (hf 5 _ rfl).trans e5
  have q9 : Tryd.prog.cellsOf 9 = 1 := by kernel_rfl
  have q3 : Tryd.prog.cellsOf 3 = 1 := by kernel_rfl
  have q40 : Tryd.prog.cellsOf 40 = 1 := by kernel_rfl
  have q41 : Tryd.prog.cellsOf 41 = 1 := by kernel_rfl
  have q42 : Tryd.prog.cellsOf 42 = 1 := by kernel_rfl
  change DataW.trod _ _ _ _ _ _ _ 9 (([c0, c1, c2, c3, c4, c5].drop 0).take (Tryd.prog.cellsOf 9)) = _ at g0
  change DataW.trod _ _ _ _ _ _ _ 3 (([c0, c1, c2, c3, c4, c5].drop 1).take (Tryd.prog.cellsOf 3)) = _ at g1
  change DataW.trod _ _ _ _ _ _ _ 40 (([c0, c1, c2, c3, c4, c5].drop 2).take (Tryd.prog.cellsOf 40)) = _ at g2
  change DataW.trod _ _ _ _ _ _ _ 41 (([c0, c1, c2, c3, c4, c5].drop 3).take (Tryd.prog.cellsOf 41)) = _ at g3
  change DataW.trod _ _ _ _ _ _ _ 42 (([c0, c1, c2, c3, c4, c5].drop 4).take (Tryd.prog.cellsOf 42)) = _ at g4
  change DataW.trod _ _ _ _ _ _ _ 42 (([c0, c1, c2, c3, c4, c5].drop 5).take (Tryd.prog.cellsOf 42)) = _ at g5
  rw [q9] at g0
  rw [q3] at g1
  rw [q40] at g2
  rw [q41] at g3
  rw [q42] at g4 g5
  obtain ⟨s, k0, _, hs⟩ := DataW.trod_string Tryd.underlying9 g0
  obtain ⟨n1, k1, _, _⟩ := DataW.trod_int Tryd.underlying3 g1
  obtain ⟨A, m, cc, lc, k2, r1, r2, _, r4⟩ := open_cols g2
  obtain ⟨A2, m2, cc2, lx, k3, x1, x2, _⟩ := open_idxs g3
  obtain ⟨n4, k4, _, w4⟩ := DataW.trod_int Tryd.underlying42 g4
  obtain ⟨n5, k5, _, w5⟩ := DataW.trod_int Tryd.underlying42 g5
  have b4 := bounds_u64 w4
  have b5 := bounds_u64 w5
  simp at k0 k1 k4 k5
  subst k0 k1 k2 k3 k4 k5
  refine ⟨⟨s, n1, lc, lx, n4.toNat, n5.toNat⟩, ⟨A, m, cc, A2, m2, cc2, ?_, r1, x1, r2, x2⟩, ⟨hs, r4⟩⟩
  rw [Int.toNat_of_nonneg b4.1, Int.toNat_of_nonneg b5.1]
end Go.Proofs.YtophcoaikelopaaDoor
