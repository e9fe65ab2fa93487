/- Walks: the reference's Parse: the column that is read. -/
import Derived.Test.YtophcoaikelopaaDoorWY
namespace Go.Proofs.YtophcoaikelopaaDoor
open Go.RowKit
/-- A column under way. -/
structure CInv (w wr : World) (tb : Nat) (name : ByteArray) (ver : Int) (v u : Value) (k q : Nat) (cols : List Col) (idxs : List Idx) (s : RS) (cb : Nat) (cs : Array Value) : Prop where
  q : QInv w wr tb name ver v u k q cols idxs s
  blk : Blk wr cb 25 cs
  hcb : w.heap.size + 1 < cb
  hne : cb ≠ tb
  nv : v.ownBlock ≠ some cb
  nu : u.ownBlock ≠ some cb
section
variable {w wr w1 : World} {tb : Nat} {name : ByteArray} {ver : Int} {v u : Value} {k q : Nat} {cols : List Col} {idxs : List Idx} {s s' : RS} {cb : Nat} {cs : Array Value}
theorem CInv.new (h : QInv w wr tb name ver v u k q cols idxs s) (cs : Array Value) : CInv w (wr.alloc (.cells cs 25)) tb name ver v u k q cols idxs s wr.heap.size cs :=
  ⟨h.alloc _, Blk.new _ _ _, h.rd.lt, by have := h.tbl.lt; omega, (own_ne h.own (.inr (Nat.le_refl _))).symm, (own_ne h.own2 (.inr (Nat.le_refl _))).symm⟩
theorem CInv.read (h : CInv w wr tb name ver v u k q cols idxs s cb cs) (hs : GSt w1 w.heap.size (w.heap.size + 1) s') (hg : wr.grownBy w1 (some (w.heap.size + 1))) : CInv w w1 tb name ver v u k q cols idxs s' cb cs :=
  ⟨h.q.read hs hg, h.blk.grown hg (fun e => by injection e with e; have := h.hcb; omega), h.hcb, h.hne, h.nv, h.nu⟩
theorem CInv.set_ (h : CInv w wr tb name ver v u k q cols idxs s cb cs) (i : Nat) (x : Value) : CInv w (wr.setCell ⟨cb, i, none⟩ x) tb name ver v u k q cols idxs s cb (cs.setIfInBounds i x) :=
  ⟨h.q.set x h.hcb h.hne h.nv h.nu, h.blk.set_ i x, h.hcb, h.hne, h.nv, h.nu⟩
end
theorem get_rd (B rb n : Nat) (s : RS) (w : World) (h : GSt w B rb s) (hn : n ≤ 255) : Calls Tryd.prog 57 #[.pointer (some ⟨rb, 0, none⟩), .int .i64 (n : Int)] w (RetGk w B rb n s) := get_any B rb n n rfl s w h hn
end Go.Proofs.YtophcoaikelopaaDoor
