/- Walks: Fits. -/
import Derived.Test.YtophcoaikelopaaDoorWH
import Derived.Test.YtophcoaikelopaaDoorSData
import Derived.Test.YtophcoaikelopaaDoorShelf
namespace Go.Proofs.YtophcoaikelopaaDoor
open Go.RowKit

def Tabs (w : World) : Prop := Lib.Utf8Tabs 0 1 w
theorem Tabs.below {w w' : World} (h : Tabs w) (hb : Below w.heap.size w w') : Tabs w' := Utf8Tabs_below h hb
theorem valid_any (s : ByteArray) (hs : s.size ≤ 9223372036854775807) (w : World) (hT : Tabs w) : Calls Tryd.prog 35 #[.string s] w fun e w' => e = .returned (.bool (Lib.validD s.data.toList)) ∧ Below w.heap.size w w' :=
  Any.utf8_ValidString Tryd.laysValid s w hs hT
theorem bel1 (w : World) (o : Obj) : Below w.heap.size w (w.alloc o) := (Below.refl _ _).alloc (Nat.le_refl _) o
theorem bel2 (w : World) (o p : Obj) : Below w.heap.size w ((w.alloc o).alloc p) := (bel1 w o).alloc (by simp) p
/-- The error of a value for a column. -/
def fits (c : Col) (v : Val) : Int :=
  if knownB c.ty = false ∨ (v.ty : Int) ≠ c.ty ∨ (v.null = true ∧ c.null = false) then 16
  else if ((v.null = true ∨ (v.ty : Int) ≠ 1) ∧ v.int ≠ 0) ∨ ((v.null = true ∨ (v.ty : Int) ≠ 2) ∧ v.text.toList ≠ []) ∨ ((v.null = true ∨ (v.ty : Int) ≠ 3) ∧ v.bool = true) then 16
  else if v.int < -2147483648 ∨ 2147483647 < v.int ∨ Lib.validD v.text.data.toList = false then 16
  else if 200 < (v.text.size : Int) then 9 else 0

set_option maxRecDepth 100000 in
set_option maxHeartbeats 4000000 in
theorem fits_any (c : Col) (v : Val) (w : World) (hs : v.text.size ≤ 9223372036854775807) (hT : Tabs w) :
    Calls Tryd.prog 11 #[c.val, v.val] w fun e w' => e = .returned (.int .i64 (fits c v)) ∧ Below w.heap.size w w' := by
  have HK := Lib.hid (known_any c.ty)
  have HV : Hid (∀ W, Below w.heap.size w W → w.heap.size + 1 < W.heap.size → W.cell? ⟨w.heap.size + 1, 3, none⟩ = some (.string v.text) → Calls Tryd.prog 35 #[.string v.text] W fun e w' => e = .returned (.bool (Lib.validD v.text.data.toList)) ∧ Below w.heap.size w w' ∧ w'.cell? ⟨w.heap.size + 1, 3, none⟩ = some (.string v.text)) :=
    fun W hb hl hc => (valid_any v.text hs W (hT.below hb)).mono fun e w' h => ⟨h.1, hb.trans (h.2.mono hb.size), by rw [← hc]; exact (bcell h.2).1 _ _ hl⟩
  obtain ⟨R, hR⟩ : ∃ R, R = fits c v := ⟨_, rfl⟩
  rw [← hR]
  have HR := Lib.hid hR
  unfold fits at HR
  clear hR hT
  generalize Lib.validD v.text.data.toList = vd at *
  generalize knownB c.ty = kn at *
  go_enter Tryd.func11, Tryd.ntmps11
  go_wp2_with (first | (go_at_call 34; refine (HK.out _).mono ?_; rintro e w' ⟨rfl, rfl⟩) | (go_at_call 35; refine (HV.out _ ?q1 ?q2 ?q3).mono ?_; (case q1 => exact bel2 _ _ _); (case q2 => simp); (case q3 => clear HV HR; go_simp); rintro e w' ⟨rfl, hb, hc3⟩))
  all_goals go_ret
  all_goals refine ⟨?_, ?_⟩
  all_goals first | exact hb | exact bel2 _ _ _ | skip
  all_goals (congr 2; (try apply Eq.symm); rw [HR.out]; clear HR HV HK)
  all_goals (try simp only [Bool.not_eq_eq_eq_not, Bool.not_true, Bool.not_false, Bool.not_eq_true, bne_eq_false_iff_eq, bne_iff_ne] at *)
  all_goals first | (simp [*]; done) | (simp [*]; omega) | (simp [*]; (repeat' split) <;> omega) | (simp_all; done) | (simp_all; omega) | (cases vd <;> (try (simp_all; done)) <;> simp [*] <;> (try omega) <;> (repeat' split) <;> first | omega | (simp_all; done) | (simp_all; omega))
end Go.Proofs.YtophcoaikelopaaDoor
