/- Walks: what stands in memory while the reference's Parse runs. Printed by genq.py. -/
import Derived.Test.YtophcoaikelopaaDoorPZ
import Derived.Test.YtophcoaikelopaaDoorWR
import Derived.Test.YtophcoaikelopaaDoorWT
namespace Go.Proofs.YtophcoaikelopaaDoor
open Go.RowKit
section
variable {w w' : World} {B rb : Nat} {s : RS}
theorem GSt.lt (h : GSt w B rb s) : rb < w.heap.size := by obtain ⟨X, m, cx, hB, _⟩ := h; exact hB.lt
theorem GSt.under (h : GSt w B rb s) : B ≤ rb := by obtain ⟨X, m, cx, _, _, _, _, hb⟩ := h; exact hb
theorem GSt.alloc (h : GSt w B rb s) (o : Obj) : GSt (w.alloc o) B rb s := by
  obtain ⟨X, m, cx, hB, hr, h1, h2, h3⟩ := h
  exact ⟨X, m, cx, hB.alloc o, hr.alloc (by have := hB.lt; omega) o, h1, h2, h3⟩
theorem GSt.drew (h : GSt w B rb s) : GSt w.drew B rb s := h
theorem GSt.drewN (h : GSt w B rb s) (n : Nat) : GSt (w.drewN n) B rb s := h
theorem GSt.far (h : GSt w B rb s) {p : Addr} (hp : rb ≠ p.block) (hB' : B ≤ p.block) (u : Value) : GSt (w.setCell p u) B rb s := by
  obtain ⟨X, m, cx, hB, hr, h1, h2, h3⟩ := h
  exact ⟨X, m, cx, hB.far hp u, hr.setCell hB' u, h1, h2, h3⟩
theorem GSt.grown (h : GSt w B rb s) {row : Option Nat} (hg : w.grownBy w' row) (hr' : ∀ g, row = some g → B ≤ g ∧ rb ≠ g) : GSt w' B rb s := by
  obtain ⟨X, m, cx, hB, hr, h1, h2, h3⟩ := h
  refine ⟨X, m, cx, hB.grown hg (fun e => (hr' rb e.symm).2 rfl), hr.grown hg (by have := hB.lt; omega) (fun g hg => (hr' g hg).1), h1, h2, h3⟩
theorem GSt.below (h : GSt w B rb s) (hb : Below w.heap.size w w') : GSt w' B rb s := h.grown (only_of_below hb none) (fun _ h => by cases h)
end
structure QInv (w wr : World) (tb : Nat) (name : ByteArray) (ver : Int) (v u : Value) (k q : Nat) (cols : List Col) (idxs : List Idx) (s : RS) : Prop where
  below : Below w.heap.size w wr
  res : Blk wr w.heap.size 44 #[.string ⟨#[]⟩, .int .i64 0, .slice none 0 0, .slice none 0 0, .int .u64 0, .int .u64 0]
  rd : GSt wr w.heap.size (w.heap.size + 1) s
  tbl : Blk wr tb 44 #[.string name, .int .i64 ver, v, u, .int .u64 0, .int .u64 0]
  own : wr.ownsRow (tb + 1) 25 9 v k (colCells cols)
  own2 : wr.ownsRow (tb + 1) 78 2 u q (idxCells idxs)
  lt : w.heap.size + 1 < tb
section
variable {w wr w1 : World} {tb : Nat} {name : ByteArray} {ver : Int} {v u : Value} {k q : Nat} {cols : List Col} {idxs : List Idx} {s s' : RS}
theorem QInv.grown (h : QInv w wr tb name ver v u k q cols idxs s) {g : Nat} (hg : wr.grownBy w1 (some g)) (h1 : w.heap.size + 1 < g) (h2 : g ≠ tb) (h3 : v.ownBlock ≠ some g) (h4 : u.ownBlock ≠ some g) : QInv w w1 tb name ver v u k q cols idxs s :=
  ⟨h.below.grown hg h.below.size (fun j hj => by injection hj with hj; omega), h.res.grown hg (fun e => by injection e; omega), h.rd.grown hg (fun j hj => by injection hj with hj; omega), h.tbl.grown hg (fun e => by injection e with e; exact h2 e.symm), own_kept_ne h.own hg h3, own_kept_ne h.own2 hg h4, h.lt⟩
theorem QInv.read (h : QInv w wr tb name ver v u k q cols idxs s) (hs : GSt w1 w.heap.size (w.heap.size + 1) s') (hg : wr.grownBy w1 (some (w.heap.size + 1))) : QInv w w1 tb name ver v u k q cols idxs s' :=
  ⟨h.below.grown hg h.below.size (fun j hj => by injection hj with hj; omega), h.res.grown hg (fun e => by injection e; omega), hs, h.tbl.grown hg (fun e => by injection e with e; have := h.lt; omega),
    own_kept_ne h.own hg (own_ne h.own (.inl (by have := h.lt; omega))).symm, own_kept_ne h.own2 hg (own_ne h.own2 (.inl (by have := h.lt; omega))).symm, h.lt⟩
theorem QInv.alloc (h : QInv w wr tb name ver v u k q cols idxs s) (o : Obj) : QInv w (wr.alloc o) tb name ver v u k q cols idxs s :=
  ⟨h.below.alloc h.below.size o, h.res.alloc o, h.rd.alloc o, h.tbl.alloc o, h.own.alloc o, h.own2.alloc o, h.lt⟩
theorem QInv.set (h : QInv w wr tb name ver v u k q cols idxs s) {g i : Nat} (x : Value) (h1 : w.heap.size + 1 < g) (h2 : g ≠ tb) (h3 : v.ownBlock ≠ some g) (h4 : u.ownBlock ≠ some g) : QInv w (wr.setCell ⟨g, i, none⟩ x) tb name ver v u k q cols idxs s :=
  h.grown (only_at x) h1 h2 h3 h4
theorem QInv.step (h : QInv w wr tb name ver v u k q cols idxs s) (hb : Below wr.heap.size wr w1) : QInv w w1 tb name ver v u k q cols idxs s :=
  ⟨h.below.trans (hb.mono h.below.size), h.res.below hb h.res.lt, h.rd.below hb, h.tbl.below hb h.tbl.lt, own_below h.own hb, own_below h.own2 hb, h.lt⟩
theorem QInv.drew (h : QInv w wr tb name ver v u k q cols idxs s) : QInv w wr.drew tb name ver v u k q cols idxs s :=
  ⟨h.below.drew, h.res, h.rd, h.tbl, h.own.drew, h.own2.drew, h.lt⟩
theorem QInv.addC (h : QInv w wr tb name ver v u k q cols idxs s) {v' : Value} {k' : Nat} {c : Col} (hg : wr.grownBy w1 v.ownBlock) (ho : w1.ownsRow (tb + 1) 25 9 v' k' (colCells cols ++ c.cells)) :
    QInv w (w1.setCell ⟨tb, 2, none⟩ v') tb name ver v' u k' q (cols ++ [c]) idxs s := by
  have hlt := h.lt
  have hsz := h.below.size
  have hB : Below (tb + 1) wr w1 := (Below.refl _ _).grown hg h.tbl.lt (fun j hj => (h.own.lt j hj).1)
  have hne : u.ownBlock = none ∨ u.ownBlock ≠ v.ownBlock := own_own_ne h.own2 h.own (by decide)
  rw [← colCells_snoc] at ho
  refine ⟨?_, ?_, ?_, ?_, own_far ho (by show tb < tb + 1; omega) _, own_far (h.own2.kept hg hne) (by show tb < tb + 1; omega) _, hlt⟩
  · exact (h.below.trans (hB.mono (by omega))).setCell (p := ⟨tb, 2, none⟩) (by show w.heap.size ≤ tb; omega) _
  · exact (h.res.below hB (by omega)).far (p := ⟨tb, 2, none⟩) (by show w.heap.size ≠ tb; omega) _
  · exact (h.rd.grown hg (fun j hj => by have := (h.own.lt j hj).1; omega)).far (p := ⟨tb, 2, none⟩) (by show w.heap.size + 1 ≠ tb; omega) (by show w.heap.size ≤ tb; omega) _
  · exact (h.tbl.below hB (by omega)).set_ 2 _
theorem QInv.addI (h : QInv w wr tb name ver v u k q cols idxs s) {u' : Value} {q' : Nat} {c : Idx} (hg : wr.grownBy w1 u.ownBlock) (ho : w1.ownsRow (tb + 1) 78 2 u' q' (idxCells idxs ++ c.cells)) :
    QInv w (w1.setCell ⟨tb, 3, none⟩ u') tb name ver v u' k q' cols (idxs ++ [c]) s := by
  have hlt := h.lt
  have hsz := h.below.size
  have hB : Below (tb + 1) wr w1 := (Below.refl _ _).grown hg h.tbl.lt (fun j hj => (h.own2.lt j hj).1)
  have hne : v.ownBlock = none ∨ v.ownBlock ≠ u.ownBlock := own_own_ne h.own h.own2 (by decide)
  rw [← idxCells_snoc] at ho
  refine ⟨?_, ?_, ?_, ?_, own_far (h.own.kept hg hne) (by show tb < tb + 1; omega) _, own_far ho (by show tb < tb + 1; omega) _, hlt⟩
  · exact (h.below.trans (hB.mono (by omega))).setCell (p := ⟨tb, 3, none⟩) (by show w.heap.size ≤ tb; omega) _
  · exact (h.res.below hB (by omega)).far (p := ⟨tb, 3, none⟩) (by show w.heap.size ≠ tb; omega) _
  · exact (h.rd.grown hg (fun j hj => by have := (h.own2.lt j hj).1; omega)).far (p := ⟨tb, 3, none⟩) (by show w.heap.size + 1 ≠ tb; omega) (by show w.heap.size ≤ tb; omega) _
  · exact (h.tbl.below hB (by omega)).set_ 3 _
end
end Go.Proofs.YtophcoaikelopaaDoor
