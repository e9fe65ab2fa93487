/- Walks: slices.Clone. -/
import Derived.Test.YtophcoaikelopaaDoorXA
import Derived.Lib.BufferMore
namespace Go.Proofs.YtophcoaikelopaaDoor
open Go.RowKit
/-- Indexes of the call's own, behind a call. -/
def RetIdxs (w : World) (m : Nat) (l : List Idx) (e : Ending) (w' : World) : Prop :=
  ∃ A' m' c', e = .returned (.slice A' m' c') ∧ m' = m ∧ w'.ownsRow w.heap.size 79 2 (.slice A' m' c') m' (idxCells l) ∧ Below w.heap.size w w'
set_option maxRecDepth 100000 in
set_option maxHeartbeats 8000000 in
theorem clone_any (A : Option Addr) (n c : Nat) (l : List Idx) (w : World) (h : Reads w w.heap.size 2 A n (idxCells l)) (hn : n ≤ 100) :
    Calls Tryd.prog 59 #[.slice A n c] w (RetIdxs w n l) := by
  have H := Lib.hid h
  cases A with
  | none =>
    have h0 : n = 0 := by
      rcases Nat.eq_zero_or_pos n with h0 | h0
      · exact h0
      · obtain ⟨ad, h, _⟩ := h.2 h0
        cases h
    have hl : l = [] := by
      have := h.1
      rw [idxCells_len] at this
      exact List.eq_nil_of_length_eq_zero (by omega)
    subst h0 hl
    clear h H
    have hnil : ∀ W, (binOp .eql 48 (.slice none 0 c) (.slice none 0 0)).run Tryd.prog W = .ok (.bool true) W := fun W => Lib.run_eql_slice_nil_nil W _ _ Tryd.underlying48
    go_enter Tryd.func59, Tryd.ntmps59
    go_wp2
    go_ret
    exact ⟨_, _, _, rfl, rfl, World.ownsRow_nil _ _ _ _, Below.refl _ _⟩
  | some ad =>
    clear h
    have hnil : ∀ W, (binOp .eql 48 (.slice (some ad) n c) (.slice none 0 0)).run Tryd.prog W = .ok (.bool false) W := fun W => Lib.run_eql_slice_some_nil W _ _ _ Tryd.underlying48
    obtain ⟨i0, hi0, hz0, hz1, hz2⟩ := info_parts info79
    have HO : Hid ((w.alloc (.cells #[] 79)).ownsRow w.heap.size 79 2 (.slice (some ⟨w.heap.size, 0, none⟩) 0 0) 0 []) := World.ownsRow_made w #[] 0 (Nat.le_refl _) (by unfold maxLen; omega) (by simp)
    go_enter Tryd.func59, Tryd.ntmps59
    go_wp2_with (at_builtin; refine wpList_app _ (.tmp 5) (.tmp 6) 48 rfl rfl w.heap.size 79 i0 _ 2 24 Tryd.underlying48 hi0 hz0 hz1 hz2 rfl ?q1 (.slice (some ⟨w.heap.size, 0, none⟩) 0 0) 0 [] rfl HO.out w.heap.size (some ad) n c (idxCells l) rfl ?q5 ?q6 ?q2 ?q3 ?q4 ?_; (case q1 => omega); (case q5 => exact H.out.alloc (Nat.le_refl _) _); (case q6 => exact idxCells_one l); (case q2 => (unfold maxLen; omega)); (case q3 => omega); (case q4 => (simp)); intro A3 n3 c3 w8 hn3 ho3 hg3 hb3; have HN3 := Lib.hid hn3; have HO3 := Lib.hid ho3; have HB3 := Lib.hid (((Below.refl _ w).alloc (Nat.le_refl _) _).trans hb3); clear hn3 ho3 hg3 hb3)
    go_ret
    refine ⟨_, _, _, rfl, HN3.out.trans (Nat.zero_add _), ?_, HB3.out⟩
    have := HO3.out
    rw [List.nil_append] at this
    exact this
end Go.Proofs.YtophcoaikelopaaDoor
