/- Walks: the reference's words and reserved words; names that may be used; known types. -/
import Derived.Test.YtophcoaikelopaaDoorWG
namespace Go.Proofs.YtophcoaikelopaaDoor
open Go.RowKit

def strs (l : List ByteArray) : List Value := l.map Value.string
theorem words_at (k : Nat) (hk : k < 31) : (words[k]'(by simp [words, words_len, hk])).toList = wordsL[k]'(by rw [words_len]; exact hk) := by
  rw [ByteArray.toList_eq]; simp [words]
set_option maxHeartbeats 1000000 in
theorem words_any (w : World) : Calls Tryd.prog 14 #[] w fun e w' => e = .returned (.slice (some ⟨w.heap.size, 0, none⟩) 31 31) ∧ w.alloc (.cells (strs words).toArray 9) = w' := by
  go_enter Tryd.func14, Tryd.ntmps14
  go_wp2
  go_ret
  exact ⟨rfl, rfl⟩
theorem words_cell (w : World) (k : Nat) (hk : k < 31) : (w.alloc (.cells (strs words).toArray 9)).cell? ⟨w.heap.size, k, none⟩ = some (.string (words[k]'(by simp [words, words_len, hk]))) := by
  have hh : (w.alloc (.cells (strs words).toArray 9)).heap[w.heap.size]? = some (.cells (strs words).toArray 9 (0, 0)) := heap_alloc_new w _
  rw [cell_of_row _ _ _ _ _ _ hh]
  have : k < words.length := by simp [words, words_len, hk]
  simp [strs, this]
set_option maxHeartbeats 1000000 in
theorem refReserved_any (s : ByteArray) (w : World) : Calls Tryd.prog 17 #[.string s] w fun e w' => e = .returned (.bool (reserved s)) ∧ Below w.heap.size w w' := by
  obtain ⟨V, hV⟩ : ∃ V, V = reserved s := ⟨_, rfl⟩
  rw [← hV]
  have HV := Lib.hid hV
  have HC := Lib.hid (words_cell w)
  have HB := Lib.hid ((Below.refl w.heap.size w).alloc (Nat.le_refl _) (.cells (strs words).toArray 9))
  clear hV
  go_enter Tryd.func17, Tryd.ntmps17
  go_wp2_with fail
  refine (words_any w).mono ?_
  rintro e w' ⟨rfl, rfl⟩
  generalize w.alloc (.cells (strs words).toArray 9) = w1 at *
  go_wp2
  go_loop [7] (fun i => ∃ k : Nat, k ≤ 31 ∧ i = .int .i64 k ∧ Hid (∀ j (hj : j < k) (hk : j < wordsL.length), (s.toList == wordsL[j]) = false)) (fun i => 31 - (intOf i).toNat)
  case atStart => exact ⟨0, Nat.zero_le _, rfl, fun j hj => absurd hj (by omega)⟩
  case round =>
    obtain ⟨k, hk, rfl, hno⟩ := hrel
    by_cases hlt : k < 31
    · have hc := HC.out k hlt
      have HWA := Lib.hid (words_at k hlt)
      have hkl : k < wordsL.length := by rw [words_len]; exact hlt
      cases hb : (s.toList == wordsL[k]) with
      | true =>
        obtain rfl : V = true := by rw [HV.out]; exact List.any_eq_true.2 ⟨_, List.getElem_mem hkl, hb⟩
        have e1 : ((words[k]'(by simp [words, words_len, hlt])).toList == s.toList) = true := by rw [HWA.out, eq_of_beq hb]; simp
        clear hb
        generalize words[k]'(by simp [words, words_len, hlt]) = wk at *
        go_wp2
        go_ret
        exact ⟨rfl, HB.out⟩
      | false =>
        have HN : Hid (∀ j (hj : j < k + 1) (hk : j < wordsL.length), (s.toList == wordsL[j]) = false) := fun j hj hjl => by
          by_cases h : j = k
          · subst h; exact hb
          · exact hno.out j (by omega) hjl
        have e1 : ((words[k]'(by simp [words, words_len, hlt])).toList == s.toList) = false := by
          apply Bool.eq_false_iff.2; intro e; rw [HWA.out] at e; rw [← eq_of_beq e] at hb; simp at hb
        clear hb
        generalize words[k]'(by simp [words, words_len, hlt]) = wk at *
        go_wp2
        go_round
        case rel => exact ⟨k + 1, by omega, by go_num, HN⟩
        case measure => simp [intOf]; omega
    · obtain rfl : V = false := by
        rw [HV.out]
        apply Bool.eq_false_iff.2; intro e
        obtain ⟨l, hl, he⟩ := List.any_eq_true.1 e
        obtain ⟨j, hj, rfl⟩ := List.getElem_of_mem hl
        have := hno.out j (by rw [words_len] at hj; omega) hj
        rw [this] at he; cases he
      go_wp2
      go_ret
      exact ⟨rfl, HB.out⟩
/-- A name that may be used. -/
def usable (s : ByteArray) : Bool := isName s && !reserved s
set_option maxHeartbeats 1000000 in
theorem named_any (s : ByteArray) (hs : s.size ≤ 9223372036854775807) (w : World) : Calls Tryd.prog 37 #[.string s] w fun e w' => e = .returned (.bool (usable s)) ∧ w = w' := by
  have HN := Lib.hid (name_any s hs w)
  have HR := Lib.hid (reserved_any s w)
  unfold usable
  generalize isName s = a at *
  generalize reserved s = b at *
  cases a <;> cases b
  all_goals
    go_enter Tryd.func37, Tryd.ntmps37
    go_wp2_with (first | (go_at_call 61; refine HN.out.mono ?_; rintro e w' ⟨rfl, rfl⟩) | (go_at_call 16; refine HR.out.mono ?_; rintro e w' ⟨rfl, rfl⟩))
    go_ret
    exact ⟨rfl, rfl⟩
set_option maxHeartbeats 1000000 in
theorem refNamed_any (s : ByteArray) (hs : s.size ≤ 9223372036854775807) (w : World) : Calls Tryd.prog 38 #[.string s] w fun e w' => e = .returned (.bool (usable s)) ∧ Below w.heap.size w w' := by
  have HN := Lib.hid (refName_any s hs w)
  have HR := Lib.hid (refReserved_any s w)
  unfold usable
  generalize isName s = a at *
  generalize reserved s = b at *
  cases a <;> cases b
  all_goals
    go_enter Tryd.func38, Tryd.ntmps38
    go_wp2_with (first | (go_at_call 62; refine HN.out.mono ?_; rintro e w' ⟨rfl, rfl⟩) | (go_at_call 17; refine HR.out.mono ?_; rintro e w' ⟨rfl, hb⟩))
    go_ret
    first | exact ⟨rfl, hb⟩ | exact ⟨rfl, Below.refl _ _⟩
/-- There is such a type. -/
def knownB (t : Nat) : Bool := decide (1 ≤ t ∧ t ≤ 3)
set_option maxHeartbeats 1000000 in
theorem known_any (t : Nat) (w : World) : Calls Tryd.prog 34 #[.int .u8 (t : Int)] w fun e w' => e = .returned (.bool (knownB t)) ∧ w = w' := by
  by_cases h1 : t = 1
  · subst h1
    go_enter Tryd.func34, Tryd.ntmps34
    go_wp2
    go_ret
    exact ⟨rfl, rfl⟩
  · by_cases h2 : t = 2
    · subst h2
      go_enter Tryd.func34, Tryd.ntmps34
      go_wp2
      go_ret
      exact ⟨rfl, rfl⟩
    · by_cases h3 : t = 3
      · subst h3
        go_enter Tryd.func34, Tryd.ntmps34
        go_wp2
        go_ret
        exact ⟨rfl, rfl⟩
      · have e1 : ((t : Int) == 1) = false := by rw [beq_eq_false_iff_ne]; omega
        have e2 : ((t : Int) == 2) = false := by rw [beq_eq_false_iff_ne]; omega
        have e3 : ((t : Int) == 3) = false := by rw [beq_eq_false_iff_ne]; omega
        have HK : Hid (knownB t = false) := show _ = _ from decide_eq_false (by omega)
        rw [HK.out]
        clear h1 h2 h3
        go_enter Tryd.func34, Tryd.ntmps34
        go_wp2
        go_ret
        exact ⟨rfl, rfl⟩
end Go.Proofs.YtophcoaikelopaaDoor
