/- Plain: what the reference reads answers as parse. -/
import Derived.Test.YtophcoaikelopaaDoorPY
namespace Go.Proofs.YtophcoaikelopaaDoor
namespace R
open Go.RowKit
variable {l : List UInt8}
theorem enc_head (t : Tbl) : ∃ r, enc t = 1 :: r := by
  simp only [enc, encHead, List.cons_append]
  exact ⟨_, rfl⟩
theorem of_parse {t : Tbl} (h : parse l = some t) : nb ⟨l, false⟩ = 1 ∧ pIdxs l = some (t.idxs, ⟨[], false⟩) ∧ pTbl l t.idxs = t ∧ valid t = 0 ∧ enc t = l := by
  obtain ⟨hv, he, h1, h2⟩ := parse_sound h
  have hr := read_enc hv
  obtain ⟨r, hr1⟩ := enc_head t
  rw [he] at hr hr1
  refine ⟨by rw [hr1, nb_cons]; rfl, hr.1, ?_, hv, he⟩
  rw [hr.2]
  cases t
  simp only at h1 h2
  subst h1 h2
  rfl
theorem parse_first (h : nb ⟨l, false⟩ ≠ 1) : parse l = none := by
  cases hp : parse l with
  | none => rfl
  | some t => exact absurd (of_parse hp).1 h
theorem parse_none (h : pIdxs l = none) : parse l = none := by
  cases hp : parse l with
  | none => rfl
  | some t => rw [(of_parse hp).2.1] at h; cases h
theorem parse_no {x : List Idx} {s : RS} (h : pIdxs l = some (x, s)) (hn : ¬ (valid (pTbl l x) = 0 ∧ s.e = false ∧ enc (pTbl l x) = l)) : parse l = none := by
  cases hp : parse l with
  | none => rfl
  | some t =>
    obtain ⟨_, h1, h2, h3, h4⟩ := of_parse hp
    rw [h1] at h
    simp only [Option.some.injEq, Prod.mk.injEq] at h
    obtain ⟨ha, hb⟩ := h
    rw [← ha, h2, ← hb] at hn
    exact absurd ⟨h3, rfl, h4⟩ hn
theorem parse_of {t : Tbl} (h1 : t.rows = 0) (h2 : t.ents = 0) (hv : valid t = 0) (he : enc t = l) : parse l = some t := by
  subst he
  rw [parse_enc hv]
  cases t
  simp only at h1 h2
  subst h1 h2
  rfl
theorem parse_yes {x : List Idx} (h1 : valid (pTbl l x) = 0) (h3 : enc (pTbl l x) = l) : parse l = some (pTbl l x) :=
  parse_of (by simp only [pTbl]) (by simp only [pTbl]) h1 h3
end R
end Go.Proofs.YtophcoaikelopaaDoor
