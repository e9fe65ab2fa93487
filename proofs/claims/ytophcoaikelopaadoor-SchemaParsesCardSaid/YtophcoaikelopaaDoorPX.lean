/- Plain: an encoding is read back. -/
import Derived.Test.YtophcoaikelopaaDoorPW
namespace Go.Proofs.YtophcoaikelopaaDoor
open Go.RowKit

/-- A column that is read back. -/
def ColOk (c : Col) : Prop := fits c c.d = 0 ∧ c.name.size < 256 ∧ 0 ≤ c.since ∧ c.since < 65536
theorem rdCols_enc (r : List UInt8) (e : Bool) : ∀ (k : Nat) (l : List Col), (∀ c ∈ l, ColOk c) → k ≤ l.length →
    rdCols ⟨encCols l ++ r, e⟩ k = (l.take k, ⟨encCols (l.drop k) ++ r, e⟩)
  | 0, l, _, _ => by simp [rdCols]
  | k + 1, l, h, hk => by
    have ih := rdCols_enc r e k l h (by omega)
    have hlt : k < l.length := by omega
    rw [rdCols, ih]
    have hc := h l[k] (List.getElem_mem hlt)
    have hd : encCols (l.drop k) ++ r = colEnc l[k] ++ (encCols (l.drop (k + 1)) ++ r) := by
      unfold encCols; rw [List.drop_eq_getElem_cons hlt, List.flatMap_cons, List.append_assoc]
    simp only
    rw [hd]
    have := rd_col l[k] hc.1 hc.2.1 hc.2.2.1 hc.2.2.2 (encCols (l.drop (k + 1)) ++ r) e
    rw [this.1, this.2, List.take_succ_eq_append_getElem hlt]
theorem findC_spec {l : List Col} {s : ByteArray} (h : ¬ findC l s < 0) : ∃ i, ∃ hi : i < l.length, findC l s = i ∧ l[i].name = s := by
  unfold findC at *
  cases hf : l.findIdx? (fun c => c.name.toList == s.toList) with
  | none => rw [hf] at h; simp at h
  | some i =>
    rw [List.findIdx?_eq_some_iff_getElem] at hf
    obtain ⟨hi, he, _⟩ := hf
    refine ⟨i, hi, rfl, ?_⟩
    have he' : l[i].name.toList = s.toList := by simpa using he
    rw [ByteArray.toList_eq, ByteArray.toList_eq] at he'
    generalize l[i].name = a at *
    cases a with
    | mk a => cases s with
      | mk b =>
        simp only at he'
        congr 1
        exact Array.ext' he'
theorem rdIdxs_enc (t : Tbl) (r : List UInt8) (e : Bool) (hn : t.cols.length ≤ 255) : ∀ (k : Nat) (l : List Idx), (∀ x ∈ l, ¬ findC t.cols x.col < 0) → k ≤ l.length →
    rdIdxs t.cols ⟨encIdxs t l ++ r, e⟩ k = some (l.take k, ⟨encIdxs t (l.drop k) ++ r, e⟩)
  | 0, l, _, _ => by simp [rdIdxs]
  | k + 1, l, h, hk => by
    have ih := rdIdxs_enc t r e hn k l h (by omega)
    have hlt : k < l.length := by omega
    rw [rdIdxs, ih]
    obtain ⟨i, hi, hfi, hname⟩ := findC_spec (h l[k] (List.getElem_mem hlt))
    have hd : encIdxs t (l.drop k) ++ r = lowB (i : Int) :: flagB l[k].uniq :: (encIdxs t (l.drop (k + 1)) ++ r) := by
      unfold encIdxs; rw [List.drop_eq_getElem_cons hlt, List.flatMap_cons, List.append_assoc, idxEnc, hfi]; rfl
    simp only
    rw [hd]
    have h1 := rd_low i (by omega) (flagB l[k].uniq :: (encIdxs t (l.drop (k + 1)) ++ r)) e
    have h2 := rd_flag l[k].uniq (encIdxs t (l.drop (k + 1)) ++ r) e
    simp only [h1.1, h1.2, h2.1, h2.2, dif_pos hi, hname]
    rw [List.take_succ_eq_append_getElem hlt]
theorem valid_rows (t : Tbl) (a b : Nat) : valid { t with rows := a, ents := b } = valid t := by
  cases t; rfl
theorem enc_rows (t : Tbl) (a b : Nat) : enc { t with rows := a, ents := b } = enc t := by
  cases t; rfl
theorem since_ok {t : Tbl} (h : ¬ BadVer t) : ∀ k (hk : k < t.cols.length), 1 ≤ t.cols[k].since ∧ t.cols[k].since ≤ 65535 := by
  unfold BadVer at h
  simp only [not_or, not_exists] at h
  intro k
  induction k with
  | zero =>
    intro hk
    have := h.2.2 0 hk
    have h1 : t.cols[0].since = 1 := by
      by_cases e : t.cols[0].since = 1
      · exact e
      · exact absurd ⟨rfl, e⟩ this.1
    omega
  | succ k ih =>
    intro hk
    have := h.2.2 (k + 1) hk
    have h1 := ih (by omega)
    have h2 := this.2.1
    rw [sinceAt, dif_pos (by omega : k < t.cols.length)] at h2
    omega
theorem ok_of_valid {t : Tbl} (hv : valid t = 0) : (∀ c ∈ t.cols, ColOk c) ∧ (∀ x ∈ t.idxs, ¬ findC t.cols x.col < 0) ∧ 0 ≤ t.ver ∧ t.ver < 65536 := by
  have hg := good_of hv
  obtain ⟨h0, h1, h2, h3, h4, h5, h6⟩ := valid_zero hv
  refine ⟨fun c hc => ?_, fun x hx => ?_, ?_, ?_⟩
  · obtain ⟨k, hk, rfl⟩ := List.getElem_of_mem hc
    have hs := since_ok h6 k hk
    have hf : fits t.cols[k] t.cols[k].d = 0 := by
      by_cases e : fits t.cols[k] t.cols[k].d = 0
      · exact e
      · exact absurd ⟨k, hk, e⟩ h5
    have := hg.cname k hk
    exact ⟨hf, by omega, by omega, by omega⟩
  · obtain ⟨k, hk, rfl⟩ := List.getElem_of_mem hx
    exact fun hlt => h4 ⟨k, hk, hlt⟩
  · unfold BadVer at h6; omega
  · unfold BadVer at h6; omega
theorem read_enc {t : Tbl} (hv : valid t = 0) : pIdxs (enc t) = some (t.idxs, ⟨[], false⟩) ∧ pTbl (enc t) t.idxs = { t with rows := 0, ents := 0 } := by
  have hg := good_of hv
  obtain ⟨hc, hx, hver, hver'⟩ := ok_of_valid hv
  have hne := hg.name
  have hnc := hg.ncols
  have hni := hg.nidx
  have e0 : enc t = 1 :: (txt t.name ++ (le2 t.ver ++ (lowB t.cols.length :: (encCols t.cols ++ (lowB t.idxs.length :: (encIdxs t t.idxs ++ [])))))) := by
    simp [enc, encHead]
  have s1 : pS1 (enc t) = ⟨txt t.name ++ (le2 t.ver ++ (lowB t.cols.length :: (encCols t.cols ++ (lowB t.idxs.length :: (encIdxs t t.idxs ++ []))))), false⟩ := by
    unfold pS1; rw [e0, rdS_cons]
  have n1 := rdText_txt t.name (by omega) (le2 t.ver ++ (lowB t.cols.length :: (encCols t.cols ++ (lowB t.idxs.length :: (encIdxs t t.idxs ++ []))))) false
  have v1 := rd_le2 t.ver hver hver' (lowB t.cols.length :: (encCols t.cols ++ (lowB t.idxs.length :: (encIdxs t t.idxs ++ [])))) false
  have hname : pName (enc t) = t.name := by unfold pName; rw [s1]; exact n1.1
  have hv2 : pVer (enc t) = t.ver := by unfold pVer; rw [s1, n1.2]; exact v1.1
  have s2 : pS2 (enc t) = ⟨lowB t.cols.length :: (encCols t.cols ++ (lowB t.idxs.length :: (encIdxs t t.idxs ++ []))), false⟩ := by unfold pS2; rw [s1, n1.2, v1.2]
  have c1 := rd_low t.cols.length (by omega) (encCols t.cols ++ (lowB t.idxs.length :: (encIdxs t t.idxs ++ []))) false
  have hN : pN (enc t) = t.cols.length := by unfold pN; rw [s2]; exact c1.1
  have cc := rdCols_enc (lowB t.idxs.length :: (encIdxs t t.idxs ++ [])) false t.cols.length t.cols hc (Nat.le_refl _)
  rw [List.take_length, List.drop_length] at cc
  have hC : pCols (enc t) = t.cols := by unfold pCols; rw [hN, s2, c1.2, cc]
  have s3 : pS3 (enc t) = ⟨lowB t.idxs.length :: (encIdxs t t.idxs ++ []), false⟩ := by unfold pS3; rw [hN, s2, c1.2, cc]; simp [encCols]
  have i1 := rd_low t.idxs.length (by omega) (encIdxs t t.idxs ++ []) false
  have hN2 : pN2 (enc t) = t.idxs.length := by unfold pN2; rw [s3]; exact i1.1
  have ii := rdIdxs_enc t [] false (by omega) t.idxs.length t.idxs hx (Nat.le_refl _)
  rw [List.take_length, List.drop_length] at ii
  refine ⟨?_, ?_⟩
  · unfold pIdxs
    rw [hC, hN2, s3, i1.2, ii]
    simp [encIdxs]
  · unfold pTbl
    rw [hname, hv2, hC]
theorem parse_enc {t : Tbl} (hv : valid t = 0) : parse (enc t) = some { t with rows := 0, ents := 0 } := by
  obtain ⟨h1, h2⟩ := read_enc hv
  unfold parse
  rw [h1]
  simp only [h2]
  rw [if_pos ⟨by rw [valid_rows]; exact hv, trivial, by rw [enc_rows]⟩]
theorem parse_sound {l : List UInt8} {t : Tbl} (h : parse l = some t) : valid t = 0 ∧ enc t = l ∧ t.rows = 0 ∧ t.ents = 0 := by
  unfold parse at h
  cases hp : pIdxs l with
  | none => rw [hp] at h; cases h
  | some q =>
    obtain ⟨x, s⟩ := q
    rw [hp] at h
    simp only at h
    split at h
    · rename_i hc
      injection h with h
      subst h
      exact ⟨hc.1, hc.2.2, rfl, rfl⟩
    · cases h
end Go.Proofs.YtophcoaikelopaaDoor
