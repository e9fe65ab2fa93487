/- The data of the schema layer, plain. -/
import Derived.Test.YtophcoaikelopaaDoorCls
namespace Go.Proofs.YtophcoaikelopaaDoor
open Go.RowKit

/-- A value. -/
structure Val where
  ty : Nat
  null : Bool
  int : Int
  text : ByteArray
  bool : Bool
/-- A column. -/
structure Col where
  name : ByteArray
  ty : Nat
  null : Bool
  since : Int
  d : Val
/-- An index. -/
structure Idx where
  col : ByteArray
  uniq : Bool
/-- A table. -/
structure Tbl where
  name : ByteArray
  ver : Int
  cols : List Col
  idxs : List Idx
  rows : Nat
  ents : Nat
abbrev Val.val (v : Val) : Value := .agg #[.int .u8 (v.ty : Int), .bool v.null, .int .i64 v.int, .string v.text, .bool v.bool]
abbrev Col.val (c : Col) : Value := .agg #[.string c.name, .int .u8 (c.ty : Int), .bool c.null, .int .i64 c.since, .int .u8 (c.d.ty : Int), .bool c.d.null, .int .i64 c.d.int, .string c.d.text, .bool c.d.bool]
def Col.cells (c : Col) : List Value := [.string c.name, .int .u8 (c.ty : Int), .bool c.null, .int .i64 c.since, .int .u8 (c.d.ty : Int), .bool c.d.null, .int .i64 c.d.int, .string c.d.text, .bool c.d.bool]
def Idx.cells (x : Idx) : List Value := [.string x.col, .bool x.uniq]
def colCells (l : List Col) : List Value := l.flatMap Col.cells
def idxCells (l : List Idx) : List Value := l.flatMap Idx.cells
theorem Col.cells_len (c : Col) : c.cells.length = 9 := rfl
theorem Idx.cells_len (c : Idx) : c.cells.length = 2 := rfl
theorem colCells_len (l : List Col) : (colCells l).length = l.length * 9 := by
  induction l with
  | nil => rfl
  | cons c l ih => simp only [colCells, List.flatMap_cons, List.length_append, Col.cells_len, List.length_cons] at *; omega
theorem idxCells_len (l : List Idx) : (idxCells l).length = l.length * 2 := by
  induction l with
  | nil => rfl
  | cons c l ih => simp only [idxCells, List.flatMap_cons, List.length_append, Idx.cells_len, List.length_cons] at *; omega
theorem colCells_at : ∀ (l : List Col) (k j : Nat) (hk : k < l.length), j < 9 → (colCells l)[k * 9 + j]? = (l[k]).cells[j]?
  | [], k, j, hk, _ => by simp at hk
  | c :: l, 0, j, _, hj => by
    simp only [colCells, List.flatMap_cons, Nat.zero_mul, Nat.zero_add, List.getElem_cons_zero]
    rw [List.getElem?_append_left (by rw [Col.cells_len]; exact hj)]
  | c :: l, k + 1, j, hk, hj => by
    have ih := colCells_at l k j (by simpa using hk) hj
    simp only [colCells, List.flatMap_cons, List.getElem_cons_succ] at ih ⊢
    rw [List.getElem?_append_right (by rw [Col.cells_len]; omega), Col.cells_len, show (k + 1) * 9 + j - 9 = k * 9 + j by omega, ih]
theorem idxCells_at : ∀ (l : List Idx) (k j : Nat) (hk : k < l.length), j < 2 → (idxCells l)[k * 2 + j]? = (l[k]).cells[j]?
  | [], k, j, hk, _ => by simp at hk
  | c :: l, 0, j, _, hj => by
    simp only [idxCells, List.flatMap_cons, Nat.zero_mul, Nat.zero_add, List.getElem_cons_zero]
    rw [List.getElem?_append_left (by rw [Idx.cells_len]; exact hj)]
  | c :: l, k + 1, j, hk, hj => by
    have ih := idxCells_at l k j (by simpa using hk) hj
    simp only [idxCells, List.flatMap_cons, List.getElem_cons_succ] at ih ⊢
    rw [List.getElem?_append_right (by rw [Idx.cells_len]; omega), Idx.cells_len, show (k + 1) * 2 + j - 2 = k * 2 + j by omega, ih]
theorem colCells_snoc (l : List Col) (c : Col) : colCells (l ++ [c]) = colCells l ++ c.cells := by simp [colCells]
theorem idxCells_snoc (l : List Idx) (c : Idx) : idxCells (l ++ [c]) = idxCells l ++ c.cells := by simp [idxCells]
/-- A slice that reads as something has a plain address. -/
theorem Reads.plain {w : World} {B size n : Nat} {A : Option Addr} {xs : List Value} (h : Reads w B size A n xs) (hn : 0 < n) (hs : 0 < size) :
    ∃ b off, A = some ⟨b, off, none⟩ ∧ b < B ∧ ∀ j u, xs[j]? = some u → w.cell? ⟨b, off + j, none⟩ = some u := by
  obtain ⟨⟨b, off, spot⟩, hA, hb, hc⟩ := h.2 hn
  have hl : 0 < xs.length := by rw [h.1]; exact Nat.mul_pos hn hs
  have h0 := hc 0 _ (List.getElem?_eq_getElem hl)
  have hspot : spot = none := by simpa [Addr.add] using World.cell?_spot h0
  subst hspot
  refine ⟨b, off, hA, hb, fun j u hu => ?_⟩
  rw [← Go.WideShapes.add_plain]
  exact hc j u hu
/-- The nine cells of column k of a slice. -/
theorem col_facts {w : World} {B n : Nat} {A : Option Addr} {l : List Col} (h : Reads w B 9 A n (colCells l)) {k : Nat} (hk : k < n) :
    ∃ (hl : k < l.length) (b off : Nat), A = some ⟨b, off, none⟩ ∧ b < B ∧
      w.cell? ⟨b, off + k * 9, none⟩ = some (.string (l[k]).name) ∧ w.cell? ⟨b, off + k * 9 + 1, none⟩ = some (.int .u8 ((l[k]).ty : Int)) ∧ w.cell? ⟨b, off + k * 9 + 2, none⟩ = some (.bool (l[k]).null) ∧
      w.cell? ⟨b, off + k * 9 + 3, none⟩ = some (.int .i64 (l[k]).since) ∧ w.cell? ⟨b, off + k * 9 + 4, none⟩ = some (.int .u8 ((l[k]).d.ty : Int)) ∧ w.cell? ⟨b, off + k * 9 + 5, none⟩ = some (.bool (l[k]).d.null) ∧
      w.cell? ⟨b, off + k * 9 + 6, none⟩ = some (.int .i64 (l[k]).d.int) ∧ w.cell? ⟨b, off + k * 9 + 7, none⟩ = some (.string (l[k]).d.text) ∧ w.cell? ⟨b, off + k * 9 + 8, none⟩ = some (.bool (l[k]).d.bool) := by
  have hl : k < l.length := by have := h.1; rw [colCells_len] at this; omega
  obtain ⟨b, off, hA, hb, hc⟩ := h.plain (by omega) (by omega)
  refine ⟨hl, b, off, hA, hb, ?_, ?_, ?_, ?_, ?_, ?_, ?_, ?_, ?_⟩
  · exact hc (k * 9) _ (colCells_at l k 0 hl (by omega))
  · exact hc (k * 9 + 1) _ (colCells_at l k 1 hl (by omega))
  · exact hc (k * 9 + 2) _ (colCells_at l k 2 hl (by omega))
  · exact hc (k * 9 + 3) _ (colCells_at l k 3 hl (by omega))
  · exact hc (k * 9 + 4) _ (colCells_at l k 4 hl (by omega))
  · exact hc (k * 9 + 5) _ (colCells_at l k 5 hl (by omega))
  · exact hc (k * 9 + 6) _ (colCells_at l k 6 hl (by omega))
  · exact hc (k * 9 + 7) _ (colCells_at l k 7 hl (by omega))
  · exact hc (k * 9 + 8) _ (colCells_at l k 8 hl (by omega))
theorem idx_facts {w : World} {B n : Nat} {A : Option Addr} {l : List Idx} (h : Reads w B 2 A n (idxCells l)) {k : Nat} (hk : k < n) :
    ∃ (hl : k < l.length) (b off : Nat), A = some ⟨b, off, none⟩ ∧ b < B ∧
      w.cell? ⟨b, off + k * 2, none⟩ = some (.string (l[k]).col) ∧ w.cell? ⟨b, off + k * 2 + 1, none⟩ = some (.bool (l[k]).uniq) := by
  have hl : k < l.length := by have := h.1; rw [idxCells_len] at this; omega
  obtain ⟨b, off, hA, hb, hc⟩ := h.plain (by omega) (by omega)
  exact ⟨hl, b, off, hA, hb, hc (k * 2) _ (idxCells_at l k 0 hl (by omega)), hc (k * 2 + 1) _ (idxCells_at l k 1 hl (by omega))⟩
end Go.Proofs.YtophcoaikelopaaDoor
