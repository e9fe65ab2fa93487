/- Walks: Add: what its walk needs. -/
import Derived.Test.YtophcoaikelopaaDoorXB
import Derived.Test.YtophcoaikelopaaDoorWS
import Derived.Test.YtophcoaikelopaaDoorLV
namespace Go.Proofs.YtophcoaikelopaaDoor
open Go.RowKit
theorem own_put {w : World} {base : Nat} {e : TypeId} {size : Nat} {g n cap : Nat} {xs : List Value} (h : w.ownsRow base e size (.slice (some ⟨g, 0, none⟩) n cap) n xs) (i : Nat) (u : Value) : (w.setCell ⟨g, i, none⟩ u).ownsRow base e size (.slice (some ⟨g, 0, none⟩) n cap) n (xs.set i u) := by
  refine ⟨by rw [List.length_set]; exact h.1, ?_⟩
  rcases h.2 with ⟨hv, _⟩ | ⟨g', cap', cur, hv, hb, hh, h1, h2, h3, h4⟩
  · cases hv
  · simp only [Value.slice.injEq, Option.some.injEq, Addr.mk.injEq, and_true, true_and] at hv
    obtain ⟨rfl, rfl⟩ := hv
    have hB : Blk w g e cur := hh
    refine .inr ⟨g, cap, _, rfl, hb, hB.set_ i u, h1, h2, by simpa using h3, ?_⟩
    rw [Array.toList_setIfInBounds, List.take_set, h4]
/-- A column that is added. -/
def mark (x : Int) (c : Col) : Col := { c with since := x }
theorem colCells_mark : ∀ (L : List Col) (k : Nat) (h : k < L.length) (x : Int), (colCells L).set (k * 9 + 3) (.int .i64 x) = colCells (L.set k (mark x L[k]))
  | c :: L, 0, _, x => by simp [colCells, Col.cells, mark]
  | c :: L, k + 1, h, x => by
    have hk : k < L.length := by simpa using h
    have ih := colCells_mark L k hk x
    have e1 : colCells (c :: L) = c.cells ++ colCells L := by simp [colCells]
    have e2 : colCells ((c :: L).set (k + 1) (mark x (c :: L)[k + 1])) = c.cells ++ colCells (L.set k (mark x L[k])) := by simp [colCells]
    rw [e1, e2, ← ih, List.set_append_right _ _ (by rw [Col.cells_len]; omega), Col.cells_len]
    congr 2; omega
def markAt (a l : List Col) (x : Int) (k : Nat) : List Col := a ++ ((l.take k).map (mark x) ++ l.drop k)
theorem markAt_zero (a l : List Col) (x : Int) : markAt a l x 0 = a ++ l := by simp [markAt]
theorem markAt_all (a l : List Col) (x : Int) : markAt a l x l.length = a ++ l.map (mark x) := by simp [markAt]
theorem markAt_len (a l : List Col) (x : Int) (k : Nat) (hk : k ≤ l.length) : (markAt a l x k).length = a.length + l.length := by simp [markAt]; omega
theorem markAt_at (a l : List Col) (x : Int) (k : Nat) (hk : k < l.length) (h : a.length + k < (markAt a l x k).length) : (markAt a l x k)[a.length + k] = l[k] := by
  simp only [markAt]
  rw [List.getElem_append_right (by omega), List.getElem_append_right (by simp; omega)]
  simp
  congr 1; omega
theorem markAt_succ (a l : List Col) (x : Int) (k : Nat) (hk : k < l.length) : (markAt a l x k).set (a.length + k) (mark x l[k]) = markAt a l x (k + 1) := by
  simp only [markAt]
  rw [List.set_append_right _ _ (by omega), List.set_append_right _ _ (by simp; omega)]
  congr 1
  have hz : a.length + k - a.length - (List.map (mark x) (List.take k l)).length = 0 := by simp; omega
  rw [hz, List.drop_eq_getElem_cons hk, List.set_cons_zero, List.take_succ_eq_append_getElem hk, List.map_append, List.append_assoc]
  rfl
theorem own_mark {w : World} {base g m cap k : Nat} {a l : List Col} {x : Int} (h : w.ownsRow base 32 9 (.slice (some ⟨g, 0, none⟩) m cap) m (colCells (markAt a l x k))) (hk : k < l.length) :
    (w.setCell ⟨g, (a.length + k) * 9 + 3, none⟩ (.int .i64 x)).ownsRow base 32 9 (.slice (some ⟨g, 0, none⟩) m cap) m (colCells (markAt a l x (k + 1))) := by
  have h1 := own_put h ((a.length + k) * 9 + 3) (.int .i64 x)
  have hl : a.length + k < (markAt a l x k).length := by rw [markAt_len _ _ _ _ (by omega)]; omega
  rw [colCells_mark _ _ hl, markAt_at a l x k hk hl, markAt_succ a l x k hk] at h1
  exact h1
/-- The next version of a table. -/
def nextT (t : Tbl) (l : List Col) : Tbl := ⟨t.name, t.ver + 1, t.cols ++ l.map (mark (t.ver + 1)), t.idxs, t.rows, t.ents⟩
def zeroT : Tbl := ⟨⟨#[]⟩, 0, [], [], 0, 0⟩
noncomputable def addT (t : Tbl) (l : List Col) : Tbl × Int :=
  if l = [] then (zeroT, 1) else if valid t ≠ 0 then (zeroT, valid t) else if valid (nextT t l) ≠ 0 then (zeroT, valid (nextT t l)) else (nextT t l, 0)
/-- What Add returns. -/
def RetAdd (w : World) (r : Tbl × Int) (e : Ending) (w' : World) : Prop :=
  ∃ v, e = .returned (.tuple #[v, .int .i64 r.2]) ∧ TblIs w' v r.1 ∧ Below w.heap.size w w'
theorem TblIs.zero (w : World) : TblIs w (.agg #[.string ⟨#[]⟩, .int .i64 0, .slice none 0 0, .slice none 0 0, .int .u64 0, .int .u64 0]) zeroT :=
  ⟨none, 0, 0, none, 0, 0, rfl, Reads.none_, Reads.none_, Nat.le_refl _, Nat.le_refl _⟩
theorem addT_nil (t : Tbl) : addT t [] = (zeroT, 1) := by simp [addT]
theorem addT_bad {t : Tbl} {l : List Col} (hl : l ≠ []) (h : valid t ≠ 0) : addT t l = (zeroT, valid t) := by simp [addT, hl, h]
theorem addT_no {t : Tbl} {l : List Col} (hl : l ≠ []) (h : valid t = 0) (h2 : valid (nextT t l) ≠ 0) : addT t l = (zeroT, valid (nextT t l)) := by simp [addT, hl, h, h2]
theorem addT_yes {t : Tbl} {l : List Col} (hl : l ≠ []) (h : valid t = 0) (h2 : valid (nextT t l) = 0) : addT t l = (nextT t l, 0) := by simp [addT, hl, h, h2]
end Go.Proofs.YtophcoaikelopaaDoor
