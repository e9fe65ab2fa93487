/- Plain: what a valid table is, and its encoding. -/
import Derived.Test.YtophcoaikelopaaDoorWM
import Derived.Test.YtophcoaikelopaaDoorWL
namespace Go.Proofs.YtophcoaikelopaaDoor
open Go.RowKit

theorem valid_zero {t : Tbl} (h : valid t = 0) : ¬ BadName t ∧ ¬ BadCount t ∧ ¬ BadCol t ∧ ¬ BadIdx t ∧ ¬ BadRef t ∧ ¬ BadFit t ∧ ¬ BadVer t := by
  unfold valid at h
  by_cases h0 : BadName t
  · rw [if_pos h0] at h; omega
  by_cases h1 : BadCount t
  · rw [if_neg h0, if_pos h1] at h; omega
  by_cases h2 : BadCol t
  · rw [if_neg h0, if_neg h1, if_pos h2] at h; omega
  by_cases h3 : BadIdx t
  · rw [if_neg h0, if_neg h1, if_neg h2, if_pos h3] at h; omega
  by_cases h4 : BadRef t
  · rw [if_neg h0, if_neg h1, if_neg h2, if_neg h3, if_pos h4] at h; omega
  by_cases h5 : BadFit t
  · rw [if_neg h0, if_neg h1, if_neg h2, if_neg h3, if_neg h4, if_pos h5] at h; omega
  by_cases h6 : BadVer t
  · rw [if_neg h0, if_neg h1, if_neg h2, if_neg h3, if_neg h4, if_neg h5, if_pos h6] at h; omega
  exact ⟨h0, h1, h2, h3, h4, h5, h6⟩
theorem usable_size {s : ByteArray} (h : usable s = true) : s.size ≤ 16 := by
  unfold usable isName at h
  simp only [Bool.and_eq_true, decide_eq_true_eq] at h
  omega
theorem fits_zero {c : Col} {v : Val} (h : fits c v = 0) : knownB c.ty = true ∧ v.ty = c.ty ∧ (v.null = true → c.null = true) ∧ ((v.null = true ∨ v.ty ≠ 1) → v.int = 0) ∧ ((v.null = true ∨ v.ty ≠ 2) → v.text.toList = []) ∧ ((v.null = true ∨ v.ty ≠ 3) → v.bool = false) ∧
    -2147483648 ≤ v.int ∧ v.int ≤ 2147483647 ∧ v.text.size ≤ 200 := by
  unfold fits at h
  split at h
  · omega
  split at h
  · omega
  split at h
  · omega
  split at h
  · omega
  rename_i h1 h2 h3 h4
  simp only [not_or, not_and, Bool.not_eq_false, ne_eq, Decidable.not_not, Bool.not_eq_true] at h1 h2 h3
  have hty : v.ty = c.ty := by have := h1.2.1; omega
  refine ⟨h1.1, hty, h1.2.2, fun h => h2.1 (h.imp id (by omega)), fun h => h2.2.1 (h.imp id (by omega)), fun h => h2.2.2 (h.imp id (by omega)), by omega, by omega, by omega⟩
/-- What a valid table keeps to. -/
structure Good (t : Tbl) : Prop where
  name : t.name.size ≤ 16
  ncols : t.cols.length ≤ 8
  ncols1 : 0 < t.cols.length
  nidx : t.idxs.length ≤ 4
  cname : ∀ k (h : k < t.cols.length), t.cols[k].name.size ≤ 16
  ctext : ∀ k (h : k < t.cols.length), t.cols[k].d.text.size ≤ 200
  cty : ∀ k (h : k < t.cols.length), t.cols[k].ty ≤ 3
theorem good_of {t : Tbl} (h : valid t = 0) : Good t := by
  obtain ⟨h0, h1, h2, h3, h4, h5, h6⟩ := valid_zero h
  have hf : ∀ k (hk : k < t.cols.length), fits t.cols[k] t.cols[k].d = 0 := fun k hk => by
    by_cases e : fits t.cols[k] t.cols[k].d = 0
    · exact e
    · exact absurd ⟨k, hk, e⟩ h5
  unfold BadName BadCount at *
  simp only [not_or, not_exists, Bool.not_eq_false] at h0 h1
  refine ⟨usable_size h0.1, by omega, by omega, by omega, fun k hk => usable_size (h0.2 k hk), fun k hk => (fits_zero (hf k hk)).2.2.2.2.2.2.2.2, fun k hk => ?_⟩
  have := (fits_zero (hf k hk)).1
  unfold knownB at this
  simp only [decide_eq_true_eq] at this
  omega
def colEnc (c : Col) : List UInt8 := txt c.name ++ [lowB c.ty, flagB c.null] ++ le2 c.since ++ valEnc c.d
def idxEnc (t : Tbl) (x : Idx) : List UInt8 := [lowB (findC t.cols x.col), flagB x.uniq]
/-- The encoding. -/
def encHead (t : Tbl) : List UInt8 := [1] ++ txt t.name ++ le2 t.ver ++ [lowB t.cols.length]
def encCols (l : List Col) : List UInt8 := l.flatMap colEnc
def encIdxs (t : Tbl) (l : List Idx) : List UInt8 := l.flatMap (idxEnc t)
def enc (t : Tbl) : List UInt8 := encHead t ++ encCols t.cols ++ [lowB t.idxs.length] ++ encIdxs t t.idxs
theorem encCols_snoc (l : List Col) (k : Nat) (h : k < l.length) : encCols (l.take (k + 1)) = encCols (l.take k) ++ colEnc l[k] := by
  unfold encCols; rw [List.take_succ_eq_append_getElem h, List.flatMap_append]; simp
theorem encIdxs_snoc (t : Tbl) (l : List Idx) (k : Nat) (h : k < l.length) : encIdxs t (l.take (k + 1)) = encIdxs t (l.take k) ++ idxEnc t l[k] := by
  unfold encIdxs; rw [List.take_succ_eq_append_getElem h, List.flatMap_append]; simp
theorem txt_len (s : ByteArray) : (txt s).length = s.size + 1 := by simp [txt]
theorem valEnc_len (v : Val) (h : v.text.size ≤ 200) : (valEnc v).length ≤ 202 := by
  unfold valEnc
  split
  · simp
  · split
    · simp [le4]
    · split
      · simp [txt_len]; omega
      · simp
theorem colEnc_len (c : Col) (h1 : c.name.size ≤ 16) (h2 : c.d.text.size ≤ 200) : (colEnc c).length ≤ 223 := by
  have := valEnc_len c.d h2
  simp only [colEnc, List.length_append, txt_len, le2, List.length_cons, List.length_nil]; omega
end Go.Proofs.YtophcoaikelopaaDoor
