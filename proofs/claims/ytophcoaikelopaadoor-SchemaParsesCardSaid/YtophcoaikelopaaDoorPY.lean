/- Plain: what the reference reads. Printed by genplain.py. -/
import Derived.Test.YtophcoaikelopaaDoorWW
namespace Go.Proofs.YtophcoaikelopaaDoor
namespace R
open Go.RowKit
def rdText (s : RS) : ByteArray := ⟨(rdB (nb s) (gtS 1 s)).toArray⟩
def rdTextS (s : RS) : RS := gtS (nb s) (gtS 1 s)
def rdVal (ty : Nat) (s : RS) : Val :=
  if nb s = 0 then ⟨ty, true, 0, noText, false⟩
  else if ty = 1 then ⟨ty, false, int4 (rdB 4 (gtS 1 s)), noText, false⟩
  else if ty = 2 then ⟨ty, false, 0, ⟨(rdB (nb (gtS 1 s)) (gtS 1 (gtS 1 s))).toArray⟩, false⟩
  else ⟨ty, false, 0, noText, nb (gtS 1 s) == 1⟩
def rdValS (ty : Nat) (s : RS) : RS :=
  if nb s = 0 then gtS 1 s
  else if ty = 1 then gtS 4 (gtS 1 s)
  else if ty = 2 then gtS (nb (gtS 1 s)) (gtS 1 (gtS 1 s))
  else gtS 1 (gtS 1 s)
theorem rdS_app (a r : List UInt8) (e : Bool) (n : Nat) (h : a.length = n) : gtS n ⟨a ++ r, e⟩ = ⟨r, e⟩ := by
  unfold gtS; rw [if_pos (by simp; omega), ← h]; simp
theorem rdS_cons (r : List UInt8) (e : Bool) (b : UInt8) : gtS 1 ⟨b :: r, e⟩ = ⟨r, e⟩ := rdS_app [b] r e 1 rfl
theorem rdText_txt (a : ByteArray) (h : a.size < 256) (r : List UInt8) (e : Bool) : rdText ⟨txt a ++ r, e⟩ = a ∧ rdTextS ⟨txt a ++ r, e⟩ = ⟨r, e⟩ := by
  unfold rdText rdTextS txt
  rw [List.cons_append, nb_cons, rdS_cons, lowB_nat _ h, rdB_app _ _ _ _ (data_len a), rdS_app _ _ _ _ (data_len a)]
  exact ⟨rfl, rfl⟩
theorem rd_le2 (i : Int) (h : 0 ≤ i) (h' : i < 65536) (r : List UInt8) (e : Bool) : (nb2 ⟨le2 i ++ r, e⟩ : Int) = i ∧ gtS 2 ⟨le2 i ++ r, e⟩ = ⟨r, e⟩ := by
  unfold nb2
  rw [rdB_app _ _ _ 2 rfl, rdS_app _ _ _ 2 rfl]
  refine ⟨?_, rfl⟩
  simp only [le2, List.getD_cons_zero, List.getD_cons_succ]
  have h1 := lowB_toNat i
  have h2 := lowB_toNat (i / 256)
  omega
theorem rd_flag (b : Bool) (r : List UInt8) (e : Bool) : (nb ⟨flagB b :: r, e⟩ == 1) = b ∧ gtS 1 ⟨flagB b :: r, e⟩ = ⟨r, e⟩ := by
  rw [nb_cons, rdS_cons]; cases b <;> exact ⟨rfl, rfl⟩
theorem rd_low (n : Nat) (h : n < 256) (r : List UInt8) (e : Bool) : nb ⟨lowB n :: r, e⟩ = n ∧ gtS 1 ⟨lowB n :: r, e⟩ = ⟨r, e⟩ := by
  rw [nb_cons, rdS_cons, lowB_nat n h]; exact ⟨rfl, rfl⟩
theorem rd_le4 (i : Int) (h : -2147483648 ≤ i) (h' : i ≤ 2147483647) (r : List UInt8) (e : Bool) : int4 (rdB 4 ⟨le4 i ++ r, e⟩) = i ∧ gtS 4 ⟨le4 i ++ r, e⟩ = ⟨r, e⟩ := by
  rw [rdB_app _ _ _ 4 rfl, rdS_app _ _ _ 4 rfl]
  refine ⟨?_, rfl⟩
  unfold int4
  simp only [le4, List.getD_cons_zero, List.getD_cons_succ]
  have h1 := lowB_toNat i
  have h2 := lowB_toNat (i / 256)
  have h3 := lowB_toNat (i / 65536)
  have h4 := lowB_toNat (i / 16777216)
  unfold sg4
  split <;> omega
theorem rd_val (c : Col) (v : Val) (hf : fits c v = 0) (r : List UInt8) (e : Bool) : rdVal c.ty ⟨valEnc v ++ r, e⟩ = v ∧ rdValS c.ty ⟨valEnc v ++ r, e⟩ = ⟨r, e⟩ := by
  obtain ⟨hk, hty, hnull, hint, htext, hbool, hi1, hi2, hsz⟩ := fits_zero hf
  unfold knownB at hk
  simp only [decide_eq_true_eq] at hk
  rw [← hty] at hk ⊢
  unfold rdVal rdValS valEnc
  rw [List.cons_append, nb_cons, rdS_cons]
  cases hn : v.null with
  | true =>
    have h1 := hint (.inl hn)
    have h2 := noText_of _ (htext (.inl hn))
    have h3 := hbool (.inl hn)
    rw [if_pos (by rfl), if_pos (by rfl)]
    refine ⟨?_, by simp⟩
    cases v
    simp_all
  | false =>
    rw [if_neg (show ¬ (flagB (!false)).toNat = 0 by decide), if_neg (show ¬ (flagB (!false)).toNat = 0 by decide)]
    simp only [Bool.false_eq_true, ↓reduceIte]
    by_cases ht1 : v.ty = 1
    · simp only [if_pos ht1]
      have := rd_le4 v.int hi1 hi2 r e
      rw [this.1, this.2]
      have h2 := noText_of _ (htext (.inr (by omega)))
      have h3 := hbool (.inr (by omega))
      refine ⟨?_, rfl⟩
      cases v
      simp_all
    · simp only [if_neg ht1]
      have h1 := hint (.inr ht1)
      by_cases ht2 : v.ty = 2
      · simp only [if_pos ht2]
        have := rdText_txt v.text (by omega) r e
        unfold rdText rdTextS at this
        rw [this.1, this.2]
        have h3 := hbool (.inr (by omega))
        refine ⟨?_, rfl⟩
        cases v
        simp_all
      · simp only [if_neg ht2]
        have := rd_flag v.bool r e
        rw [show [flagB v.bool] ++ r = flagB v.bool :: r from rfl, this.1, this.2]
        have h2 := noText_of _ (htext (.inr (by omega)))
        refine ⟨?_, rfl⟩
        cases v
        simp_all
/-- A column, as it is read. -/
def rdCol (s : RS) : Col :=
  ⟨rdText s, nb (rdTextS s), nb (gtS 1 (rdTextS s)) == 1, nb2 (gtS 1 (gtS 1 (rdTextS s))), rdVal (nb (rdTextS s)) (gtS 2 (gtS 1 (gtS 1 (rdTextS s))))⟩
def rdColS (s : RS) : RS := rdValS (nb (rdTextS s)) (gtS 2 (gtS 1 (gtS 1 (rdTextS s))))
theorem rd_col (c : Col) (hf : fits c c.d = 0) (hn : c.name.size < 256) (hs : 0 ≤ c.since) (hs' : c.since < 65536) (r : List UInt8) (e : Bool) : rdCol ⟨colEnc c ++ r, e⟩ = c ∧ rdColS ⟨colEnc c ++ r, e⟩ = ⟨r, e⟩ := by
  have hk := (fits_zero hf).1
  unfold knownB at hk
  simp only [decide_eq_true_eq] at hk
  unfold rdCol rdColS colEnc
  simp only [List.append_assoc]
  have h1 := rdText_txt c.name hn ([lowB c.ty, flagB c.null] ++ (le2 c.since ++ (valEnc c.d ++ r))) e
  rw [h1.1, h1.2]
  rw [show [lowB c.ty, flagB c.null] ++ (le2 c.since ++ (valEnc c.d ++ r)) = lowB c.ty :: flagB c.null :: (le2 c.since ++ (valEnc c.d ++ r)) from rfl]
  have h2 := rd_low c.ty (by omega) (flagB c.null :: (le2 c.since ++ (valEnc c.d ++ r))) e
  rw [h2.1, h2.2]
  have h3 := rd_flag c.null (le2 c.since ++ (valEnc c.d ++ r)) e
  rw [h3.1, h3.2]
  have h4 := rd_le2 c.since hs hs' (valEnc c.d ++ r) e
  rw [h4.1, h4.2]
  have h5 := rd_val c c.d hf r e
  rw [h5.1, h5.2]
  exact ⟨rfl, rfl⟩
/-- The columns that are read: after k of them. -/
def rdCols (s : RS) : Nat → List Col × RS
  | 0 => ([], s)
  | k + 1 => ((rdCols s k).1 ++ [rdCol (rdCols s k).2], rdColS (rdCols s k).2)
/-- The indexes that are read: after k of them; none: a number of no column. -/
def rdIdxs (cols : List Col) (s : RS) : Nat → Option (List Idx × RS)
  | 0 => some ([], s)
  | k + 1 => match rdIdxs cols s k with
    | none => none
    | some (l, s') => if h : nb s' < cols.length then some (l ++ [⟨cols[nb s'].name, nb (gtS 1 s') == 1⟩], gtS 1 (gtS 1 s')) else none
theorem rdCols_len (s : RS) : ∀ k, (rdCols s k).1.length = k
  | 0 => rfl
  | k + 1 => by simp [rdCols, rdCols_len s k]
/-- What is read. -/
def pS1 (l : List UInt8) : RS := gtS 1 ⟨l, false⟩
def pName (l : List UInt8) : ByteArray := rdText (pS1 l)
def pVer (l : List UInt8) : Int := nb2 (rdTextS (pS1 l))
def pS2 (l : List UInt8) : RS := gtS 2 (rdTextS (pS1 l))
def pN (l : List UInt8) : Nat := nb (pS2 l)
def pCols (l : List UInt8) : List Col := (rdCols (gtS 1 (pS2 l)) (pN l)).1
def pS3 (l : List UInt8) : RS := (rdCols (gtS 1 (pS2 l)) (pN l)).2
def pN2 (l : List UInt8) : Nat := nb (pS3 l)
def pIdxs (l : List UInt8) : Option (List Idx × RS) := rdIdxs (pCols l) (gtS 1 (pS3 l)) (pN2 l)
def pTbl (l : List UInt8) (x : List Idx) : Tbl := ⟨pName l, pVer l, pCols l, x, 0, 0⟩
theorem rdCols_enc (r : List UInt8) (e : Bool) : ∀ (k : Nat) (l : List Col), (∀ c ∈ l, ColOk c) → k ≤ l.length →
    rdCols ⟨encCols l ++ r, e⟩ k = (l.take k, ⟨encCols (l.drop k) ++ r, e⟩)
  | 0, l, _, _ => by simp [rdCols]
  | k + 1, l, h, hk => by
    have ih := rdCols_enc r e k l h (by omega)
    have hlt : k < l.length := by omega
    rw [rdCols, ih]
    have hc := h l[k] (List.getElem_mem hlt)
    have hd : encCols (l.drop k) ++ r = colEnc l[k] ++ (encCols (l.drop (k + 1)) ++ r) := by
      unfold encCols; rw [List.drop_eq_getElem_cons hlt, List.flatMap_cons, List.append_assoc]
    simp only
    rw [hd]
    have := rd_col l[k] hc.1 hc.2.1 hc.2.2.1 hc.2.2.2 (encCols (l.drop (k + 1)) ++ r) e
    rw [this.1, this.2, List.take_succ_eq_append_getElem hlt]
theorem rdIdxs_enc (t : Tbl) (r : List UInt8) (e : Bool) (hn : t.cols.length ≤ 255) : ∀ (k : Nat) (l : List Idx), (∀ x ∈ l, ¬ findC t.cols x.col < 0) → k ≤ l.length →
    rdIdxs t.cols ⟨encIdxs t l ++ r, e⟩ k = some (l.take k, ⟨encIdxs t (l.drop k) ++ r, e⟩)
  | 0, l, _, _ => by simp [rdIdxs]
  | k + 1, l, h, hk => by
    have ih := rdIdxs_enc t r e hn k l h (by omega)
    have hlt : k < l.length := by omega
    rw [rdIdxs, ih]
    obtain ⟨i, hi, hfi, hname⟩ := findC_spec (h l[k] (List.getElem_mem hlt))
    have hd : encIdxs t (l.drop k) ++ r = lowB (i : Int) :: flagB l[k].uniq :: (encIdxs t (l.drop (k + 1)) ++ r) := by
      unfold encIdxs; rw [List.drop_eq_getElem_cons hlt, List.flatMap_cons, List.append_assoc, idxEnc, hfi]; rfl
    simp only
    rw [hd]
    have h1 := rd_low i (by omega) (flagB l[k].uniq :: (encIdxs t (l.drop (k + 1)) ++ r)) e
    have h2 := rd_flag l[k].uniq (encIdxs t (l.drop (k + 1)) ++ r) e
    simp only [h1.1, h1.2, h2.1, h2.2, dif_pos hi, hname]
    rw [List.take_succ_eq_append_getElem hlt]
theorem read_enc {t : Tbl} (hv : valid t = 0) : pIdxs (enc t) = some (t.idxs, ⟨[], false⟩) ∧ pTbl (enc t) t.idxs = { t with rows := 0, ents := 0 } := by
  have hg := good_of hv
  obtain ⟨hc, hx, hver, hver'⟩ := ok_of_valid hv
  have hne := hg.name
  have hnc := hg.ncols
  have hni := hg.nidx
  have e0 : enc t = 1 :: (txt t.name ++ (le2 t.ver ++ (lowB t.cols.length :: (encCols t.cols ++ (lowB t.idxs.length :: (encIdxs t t.idxs ++ [])))))) := by
    simp [enc, encHead]
  have s1 : pS1 (enc t) = ⟨txt t.name ++ (le2 t.ver ++ (lowB t.cols.length :: (encCols t.cols ++ (lowB t.idxs.length :: (encIdxs t t.idxs ++ []))))), false⟩ := by
    unfold pS1; rw [e0, rdS_cons]
  have n1 := rdText_txt t.name (by omega) (le2 t.ver ++ (lowB t.cols.length :: (encCols t.cols ++ (lowB t.idxs.length :: (encIdxs t t.idxs ++ []))))) false
  have v1 := rd_le2 t.ver hver hver' (lowB t.cols.length :: (encCols t.cols ++ (lowB t.idxs.length :: (encIdxs t t.idxs ++ [])))) false
  have hname : pName (enc t) = t.name := by unfold pName; rw [s1]; exact n1.1
  have hv2 : pVer (enc t) = t.ver := by unfold pVer; rw [s1, n1.2]; exact v1.1
  have s2 : pS2 (enc t) = ⟨lowB t.cols.length :: (encCols t.cols ++ (lowB t.idxs.length :: (encIdxs t t.idxs ++ []))), false⟩ := by unfold pS2; rw [s1, n1.2, v1.2]
  have c1 := rd_low t.cols.length (by omega) (encCols t.cols ++ (lowB t.idxs.length :: (encIdxs t t.idxs ++ []))) false
  have hN : pN (enc t) = t.cols.length := by unfold pN; rw [s2]; exact c1.1
  have cc := rdCols_enc (lowB t.idxs.length :: (encIdxs t t.idxs ++ [])) false t.cols.length t.cols hc (Nat.le_refl _)
  rw [List.take_length, List.drop_length] at cc
  have hC : pCols (enc t) = t.cols := by unfold pCols; rw [hN, s2, c1.2, cc]
  have s3 : pS3 (enc t) = ⟨lowB t.idxs.length :: (encIdxs t t.idxs ++ []), false⟩ := by unfold pS3; rw [hN, s2, c1.2, cc]; simp [encCols]
  have i1 := rd_low t.idxs.length (by omega) (encIdxs t t.idxs ++ []) false
  have hN2 : pN2 (enc t) = t.idxs.length := by unfold pN2; rw [s3]; exact i1.1
  have ii := rdIdxs_enc t [] false (by omega) t.idxs.length t.idxs hx (Nat.le_refl _)
  rw [List.take_length, List.drop_length] at ii
  refine ⟨?_, ?_⟩
  · unfold pIdxs
    rw [hC, hN2, s3, i1.2, ii]
    simp [encIdxs]
  · unfold pTbl
    rw [hname, hv2, hC]
end R
end Go.Proofs.YtophcoaikelopaaDoor
