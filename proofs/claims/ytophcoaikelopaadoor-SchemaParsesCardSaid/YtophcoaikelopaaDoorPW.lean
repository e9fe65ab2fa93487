/- Plain: what is read back from an encoding. -/
import Derived.Test.YtophcoaikelopaaDoorPV
import Derived.Test.YtophcoaikelopaaDoorWQ
namespace Go.Proofs.YtophcoaikelopaaDoor
open Go.RowKit

def rdText (s : RS) : ByteArray := ⟨(rdB (nb s) (rdS 1 s)).toArray⟩
def rdTextS (s : RS) : RS := rdS (nb s) (rdS 1 s)
section
variable (a : List UInt8) (r : List UInt8) (e : Bool)
theorem rdB_app (n : Nat) (h : a.length = n) : rdB n ⟨a ++ r, e⟩ = a := by
  unfold rdB; rw [if_pos (by simp; omega), ← h]; simp
theorem rdS_app (n : Nat) (h : a.length = n) : rdS n ⟨a ++ r, e⟩ = ⟨r, e⟩ := by
  unfold rdS; rw [if_pos (by simp; omega), ← h]; simp
theorem nb_cons (b : UInt8) : nb ⟨b :: r, e⟩ = b.toNat := by
  unfold nb; rw [show b :: r = [b] ++ r from rfl, rdB_app [b] r e 1 rfl]; rfl
theorem rdS_cons (b : UInt8) : rdS 1 ⟨b :: r, e⟩ = ⟨r, e⟩ := rdS_app [b] r e 1 rfl
end
theorem lowB_nat (n : Nat) (h : n < 256) : (lowB n).toNat = n := by have := lowB_toNat n; omega
theorem lowB_int (i : Int) (h : 0 ≤ i) (h' : i < 256) : ((lowB i).toNat : Int) = i := by have := lowB_toNat i; omega
theorem bytes_eq (a : ByteArray) : (⟨a.data.toList.toArray⟩ : ByteArray) = a := rfl
theorem data_len (a : ByteArray) : a.data.toList.length = a.size := by simp
theorem rdText_txt (a : ByteArray) (h : a.size < 256) (r : List UInt8) (e : Bool) : rdText ⟨txt a ++ r, e⟩ = a ∧ rdTextS ⟨txt a ++ r, e⟩ = ⟨r, e⟩ := by
  unfold rdText rdTextS txt
  rw [List.cons_append, nb_cons, rdS_cons, lowB_nat _ h, rdB_app _ _ _ _ (data_len a), rdS_app _ _ _ _ (data_len a)]
  exact ⟨rfl, rfl⟩
theorem rd_le2 (i : Int) (h : 0 ≤ i) (h' : i < 65536) (r : List UInt8) (e : Bool) : (nb2 ⟨le2 i ++ r, e⟩ : Int) = i ∧ rdS 2 ⟨le2 i ++ r, e⟩ = ⟨r, e⟩ := by
  unfold nb2
  rw [rdB_app _ _ _ 2 rfl, rdS_app _ _ _ 2 rfl]
  refine ⟨?_, rfl⟩
  simp only [le2, List.getD_cons_zero, List.getD_cons_succ]
  have h1 := lowB_toNat i
  have h2 := lowB_toNat (i / 256)
  omega
theorem rd_flag (b : Bool) (r : List UInt8) (e : Bool) : (nb ⟨flagB b :: r, e⟩ != 0) = b ∧ rdS 1 ⟨flagB b :: r, e⟩ = ⟨r, e⟩ := by
  rw [nb_cons, rdS_cons]; cases b <;> exact ⟨rfl, rfl⟩
theorem rd_low (n : Nat) (h : n < 256) (r : List UInt8) (e : Bool) : nb ⟨lowB n :: r, e⟩ = n ∧ rdS 1 ⟨lowB n :: r, e⟩ = ⟨r, e⟩ := by
  rw [nb_cons, rdS_cons, lowB_nat n h]; exact ⟨rfl, rfl⟩
theorem rd_le4 (i : Int) (h : -2147483648 ≤ i) (h' : i ≤ 2147483647) (r : List UInt8) (e : Bool) : int4 (rdB 4 ⟨le4 i ++ r, e⟩) = i ∧ rdS 4 ⟨le4 i ++ r, e⟩ = ⟨r, e⟩ := by
  rw [rdB_app _ _ _ 4 rfl, rdS_app _ _ _ 4 rfl]
  refine ⟨?_, rfl⟩
  unfold int4
  simp only [le4, List.getD_cons_zero, List.getD_cons_succ]
  have h1 := lowB_toNat i
  have h2 := lowB_toNat (i / 256)
  have h3 := lowB_toNat (i / 65536)
  have h4 := lowB_toNat (i / 16777216)
  unfold sg4
  split <;> omega
theorem noText_of (a : ByteArray) (h : a.toList = []) : a = noText := by
  rw [ByteArray.toList_eq] at h
  cases a with
  | mk d => 
    simp only at h
    have : d = #[] := by cases d; simp_all
    subst this; rfl
theorem rd_val (c : Col) (v : Val) (hf : fits c v = 0) (r : List UInt8) (e : Bool) : rdVal c.ty ⟨valEnc v ++ r, e⟩ = v ∧ rdValS c.ty ⟨valEnc v ++ r, e⟩ = ⟨r, e⟩ := by
  obtain ⟨hk, hty, hnull, hint, htext, hbool, hi1, hi2, hsz⟩ := fits_zero hf
  unfold knownB at hk
  simp only [decide_eq_true_eq] at hk
  rw [← hty] at hk ⊢
  unfold rdVal rdValS valEnc
  rw [List.cons_append, nb_cons, rdS_cons]
  cases hn : v.null with
  | true =>
    have h1 := hint (.inl hn)
    have h2 := noText_of _ (htext (.inl hn))
    have h3 := hbool (.inl hn)
    rw [if_pos (by rfl), if_pos (by rfl)]
    refine ⟨?_, by simp⟩
    cases v
    simp_all
  | false =>
    rw [if_neg (show ¬ (flagB (!false)).toNat = 0 by decide), if_neg (show ¬ (flagB (!false)).toNat = 0 by decide)]
    simp only [Bool.false_eq_true, ↓reduceIte]
    by_cases ht1 : v.ty = 1
    · simp only [if_pos ht1]
      have := rd_le4 v.int hi1 hi2 r e
      rw [this.1, this.2]
      have h2 := noText_of _ (htext (.inr (by omega)))
      have h3 := hbool (.inr (by omega))
      refine ⟨?_, rfl⟩
      cases v
      simp_all
    · simp only [if_neg ht1]
      have h1 := hint (.inr ht1)
      by_cases ht2 : v.ty = 2
      · simp only [if_pos ht2]
        have := rdText_txt v.text (by omega) r e
        unfold rdText rdTextS at this
        rw [this.1, this.2]
        have h3 := hbool (.inr (by omega))
        refine ⟨?_, rfl⟩
        cases v
        simp_all
      · simp only [if_neg ht2]
        have := rd_flag v.bool r e
        rw [show [flagB v.bool] ++ r = flagB v.bool :: r from rfl, this.1, this.2]
        have h2 := noText_of _ (htext (.inr (by omega)))
        refine ⟨?_, rfl⟩
        cases v
        simp_all
/-- A column, as it is read. -/
def rdCol (s : RS) : Col :=
  ⟨rdText s, nb (rdTextS s), nb (rdS 1 (rdTextS s)) != 0, nb2 (rdS 1 (rdS 1 (rdTextS s))), rdVal (nb (rdTextS s)) (rdS 2 (rdS 1 (rdS 1 (rdTextS s))))⟩
def rdColS (s : RS) : RS := rdValS (nb (rdTextS s)) (rdS 2 (rdS 1 (rdS 1 (rdTextS s))))
theorem rd_col (c : Col) (hf : fits c c.d = 0) (hn : c.name.size < 256) (hs : 0 ≤ c.since) (hs' : c.since < 65536) (r : List UInt8) (e : Bool) : rdCol ⟨colEnc c ++ r, e⟩ = c ∧ rdColS ⟨colEnc c ++ r, e⟩ = ⟨r, e⟩ := by
  have hk := (fits_zero hf).1
  unfold knownB at hk
  simp only [decide_eq_true_eq] at hk
  unfold rdCol rdColS colEnc
  simp only [List.append_assoc]
  have h1 := rdText_txt c.name hn ([lowB c.ty, flagB c.null] ++ (le2 c.since ++ (valEnc c.d ++ r))) e
  rw [h1.1, h1.2]
  rw [show [lowB c.ty, flagB c.null] ++ (le2 c.since ++ (valEnc c.d ++ r)) = lowB c.ty :: flagB c.null :: (le2 c.since ++ (valEnc c.d ++ r)) from rfl]
  have h2 := rd_low c.ty (by omega) (flagB c.null :: (le2 c.since ++ (valEnc c.d ++ r))) e
  rw [h2.1, h2.2]
  have h3 := rd_flag c.null (le2 c.since ++ (valEnc c.d ++ r)) e
  rw [h3.1, h3.2]
  have h4 := rd_le2 c.since hs hs' (valEnc c.d ++ r) e
  rw [h4.1, h4.2]
  have h5 := rd_val c c.d hf r e
  rw [h5.1, h5.2]
  exact ⟨rfl, rfl⟩
/-- The columns that are read: after k of them. -/
def rdCols (s : RS) : Nat → List Col × RS
  | 0 => ([], s)
  | k + 1 => ((rdCols s k).1 ++ [rdCol (rdCols s k).2], rdColS (rdCols s k).2)
/-- The indexes that are read: after k of them; none: a number of no column. -/
def rdIdxs (cols : List Col) (s : RS) : Nat → Option (List Idx × RS)
  | 0 => some ([], s)
  | k + 1 => match rdIdxs cols s k with
    | none => none
    | some (l, s') => if h : nb s' < cols.length then some (l ++ [⟨cols[nb s'].name, nb (rdS 1 s') != 0⟩], rdS 1 (rdS 1 s')) else none
theorem rdCols_len (s : RS) : ∀ k, (rdCols s k).1.length = k
  | 0 => rfl
  | k + 1 => by simp [rdCols, rdCols_len s k]
/-- What is read. -/
def pS1 (l : List UInt8) : RS := rdS 1 ⟨l, false⟩
def pName (l : List UInt8) : ByteArray := rdText (pS1 l)
def pVer (l : List UInt8) : Int := nb2 (rdTextS (pS1 l))
def pS2 (l : List UInt8) : RS := rdS 2 (rdTextS (pS1 l))
def pN (l : List UInt8) : Nat := nb (pS2 l)
def pCols (l : List UInt8) : List Col := (rdCols (rdS 1 (pS2 l)) (pN l)).1
def pS3 (l : List UInt8) : RS := (rdCols (rdS 1 (pS2 l)) (pN l)).2
def pN2 (l : List UInt8) : Nat := nb (pS3 l)
def pIdxs (l : List UInt8) : Option (List Idx × RS) := rdIdxs (pCols l) (rdS 1 (pS3 l)) (pN2 l)
def pTbl (l : List UInt8) (x : List Idx) : Tbl := ⟨pName l, pVer l, pCols l, x, 0, 0⟩
open Classical in
/-- Parse. -/
noncomputable def parse (l : List UInt8) : Option Tbl := match pIdxs l with
  | none => none
  | some (x, s) => if valid (pTbl l x) = 0 ∧ s.e = false ∧ enc (pTbl l x) = l then some (pTbl l x) else none
end Go.Proofs.YtophcoaikelopaaDoor
