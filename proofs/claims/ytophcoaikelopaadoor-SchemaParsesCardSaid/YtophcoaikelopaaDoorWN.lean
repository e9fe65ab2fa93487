/- Walks: the reference's Fits. -/
import Derived.Test.YtophcoaikelopaaDoorWJ
namespace Go.Proofs.YtophcoaikelopaaDoor
open Go.RowKit

theorem knownB_iff (t : Nat) : knownB t = true ↔ 1 ≤ t ∧ t ≤ 3 := by unfold knownB; simp
set_option maxRecDepth 100000 in
set_option maxHeartbeats 4000000 in
theorem refFits_any (c : Col) (v : Val) (w : World) (hs : v.text.size ≤ 9223372036854775807) :
    Calls Tryd.prog 13 #[c.val, v.val] w fun e w' => e = .returned (.int .i64 (fits c v)) ∧ Below w.heap.size w w' := by
  have HV := Lib.hid (utf8_any v.text hs)
  obtain ⟨R, hR⟩ : ∃ R, R = fits c v := ⟨_, rfl⟩
  rw [← hR]
  have HR := Lib.hid hR
  unfold fits at HR
  clear hR
  have HK := Lib.hid (knownB_iff c.ty)
  generalize Lib.validD v.text.data.toList = vd at *
  generalize knownB c.ty = kn at *
  go_enter Tryd.func13, Tryd.ntmps13
  go_wp2_with (go_at_call 36; refine (HV.out _).mono ?_; rintro e w' ⟨rfl, rfl⟩)
  all_goals go_ret
  all_goals refine ⟨?_, ?_⟩
  all_goals first | exact bel2 _ _ _ | skip
  all_goals (congr 2; (try apply Eq.symm); rw [HR.out]; have hk := HK.out; clear HR HV HK)
  all_goals (try simp only [Bool.not_eq_eq_eq_not, Bool.not_true, Bool.not_false, Bool.not_eq_true] at *)
  all_goals (cases kn <;> simp only [true_iff, false_iff, Bool.false_eq_true] at hk)
  all_goals first | (simp [*]; done) | (simp [*]; omega) | (simp [*]; (repeat' split) <;> omega) | (simp_all; done) | (simp_all; omega) | (cases vd <;> (try (simp_all; done)) <;> simp [*] <;> (try omega) <;> (repeat' split) <;> first | omega | (simp_all; done) | (simp_all; omega)) | (rename_i hh; rcases hh with (hh | hh) | hh <;> first | (exfalso; omega) | (simp [*]; done) | (simp_all; done))
end Go.Proofs.YtophcoaikelopaaDoor
