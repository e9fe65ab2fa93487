/- Walks: the reference's Parse: what its walk needs. -/
import Derived.Test.YtophcoaikelopaaDoorWZ
namespace Go.Proofs.YtophcoaikelopaaDoor
open Go.RowKit
section
variable {w wr w1 : World} {tb : Nat} {name : ByteArray} {ver : Int} {v u : Value} {k q : Nat} {cols : List Col} {idxs : List Idx} {s s' : RS}
theorem QInv.setAt (h : QInv w wr tb name ver v u k q cols idxs s) (i : Nat) (x : Value) {name' : ByteArray} {ver' : Int} (he : (#[.string name, .int .i64 ver, v, u, .int .u64 0, .int .u64 0] : Array Value).setIfInBounds i x = #[.string name', .int .i64 ver', v, u, .int .u64 0, .int .u64 0]) : QInv w (wr.setCell ⟨tb, i, none⟩ x) tb name' ver' v u k q cols idxs s := by
  have hlt := h.lt
  refine ⟨?_, ?_, ?_, he ▸ h.tbl.set_ i x, own_far h.own (by show tb < tb + 1; omega) _, own_far h.own2 (by show tb < tb + 1; omega) _, hlt⟩
  · exact h.below.setCell (p := ⟨tb, i, none⟩) (by show w.heap.size ≤ tb; omega) _
  · exact h.res.far (p := ⟨tb, i, none⟩) (by show w.heap.size ≠ tb; omega) _
  · exact h.rd.far (p := ⟨tb, i, none⟩) (by show w.heap.size + 1 ≠ tb; omega) (by show w.heap.size ≤ tb; omega) _
end
theorem col_name_at {W : World} {base b1 off N cv i1 : Nat} {e : TypeId} {cols : List Col} (hW : W.ownsRow base e 9 (.slice (some ⟨b1, off, none⟩) N cv) N (colCells cols)) (hi : i1 < N) (hl : i1 < cols.length) : W.cell? ⟨b1, off + i1 * 9, none⟩ = some (.string cols[i1].name) := by
  obtain ⟨_, b2, off2, hA2, _, g0, _⟩ := col_facts (Reads.of_own hW) hi
  injection hA2 with hA2
  injection hA2 with h1 h2
  subst h1 h2
  exact g0
theorem wrap_sg4 (p : Nat) (h : p < 4294967296) : wrap64 (wrap32 (p : Int)) = sg4 p := by
  unfold sg4 wrap64 wrap32; split <;> omega
namespace R
def colsAt (s : RS) (k : Nat) : List Col := (rdCols s k).1
def stAt (s : RS) (k : Nat) : RS := (rdCols s k).2
theorem colsAt_succ (s : RS) (k : Nat) : colsAt s (k + 1) = colsAt s k ++ [rdCol (stAt s k)] := by unfold colsAt stAt; rw [rdCols]
theorem stAt_succ (s : RS) (k : Nat) : stAt s (k + 1) = rdColS (stAt s k) := by unfold stAt; rw [rdCols]
theorem colsAt_len (s : RS) (k : Nat) : (colsAt s k).length = k := rdCols_len s k
theorem rdText_size (s : RS) : (rdText s).size ≤ 255 := by
  show (rdB (nb s) (gtS 1 s)).toArray.size ≤ 255
  rw [List.size_toArray, rdB_len]
  have := nb_lt s; omega
theorem rdVal_size (ty : Nat) (s : RS) : (rdVal ty s).text.size ≤ 255 := by
  unfold rdVal
  split
  · exact Nat.zero_le _
  split
  · exact Nat.zero_le _
  split
  · exact rdText_size (gtS 1 s)
  · exact Nat.zero_le _
theorem rdCol_name (s : RS) : (rdCol s).name = rdText s := rfl
theorem rdCol_d (s : RS) : (rdCol s).d = rdVal (nb (rdTextS s)) (gtS 2 (gtS 1 (gtS 1 (rdTextS s)))) := by unfold rdCol; with_reducible rfl
theorem colsAt_mem (s : RS) : ∀ k, ∀ c ∈ colsAt s k, c.name.size ≤ 255 ∧ c.d.text.size ≤ 255
  | 0, c, h => by cases h
  | k + 1, c, h => by
    rw [colsAt_succ, List.mem_append] at h
    rcases h with h | h
    · exact colsAt_mem s k c h
    · rw [List.mem_singleton] at h
      subst h
      rw [rdCol_name, rdCol_d]
      exact ⟨rdText_size _, rdVal_size _ _⟩
theorem pCols_eq (l : List UInt8) : pCols l = colsAt (gtS 1 (pS2 l)) (pN l) := rfl
theorem sized_p (l : List UInt8) (x : List Idx) : Sized (pTbl l x) := by
  refine ⟨?_, fun k h => ?_⟩
  · rw [show (pTbl l x).name = pName l by unfold pTbl; with_reducible rfl]
    have h1 := rdText_size (pS1 l)
    unfold pName
    generalize rdText (pS1 l) = x at *
    omega
  · have hc : (pTbl l x).cols = pCols l := by unfold pTbl; with_reducible rfl
    have hm := List.getElem_mem h
    generalize (pTbl l x).cols[k] = c at *
    rw [hc, pCols_eq] at hm
    have := colsAt_mem _ _ c hm
    omega
theorem rdIdxs_none {cols : List Col} {s : RS} {k : Nat} (h : rdIdxs cols s k = none) : ∀ j, rdIdxs cols s (k + j) = none
  | 0 => h
  | j + 1 => by
    have ih := rdIdxs_none h j
    rw [show k + (j + 1) = (k + j) + 1 from rfl, rdIdxs, ih]
theorem rdIdxs_succ {cols : List Col} {s s' : RS} {k : Nat} {x : List Idx} (h : rdIdxs cols s k = some (x, s')) (hl : nb s' < cols.length) : rdIdxs cols s (k + 1) = some (x ++ [⟨cols[nb s'].name, nb (gtS 1 s') == 1⟩], gtS 1 (gtS 1 s')) := by
  rw [rdIdxs, h]; simp only [dif_pos hl]
theorem rdIdxs_out {cols : List Col} {s s' : RS} {k : Nat} {x : List Idx} (h : rdIdxs cols s k = some (x, s')) (hl : ¬ nb s' < cols.length) : rdIdxs cols s (k + 1) = none := by
  rw [rdIdxs, h]; simp only [dif_neg hl]
end R
end Go.Proofs.YtophcoaikelopaaDoor
