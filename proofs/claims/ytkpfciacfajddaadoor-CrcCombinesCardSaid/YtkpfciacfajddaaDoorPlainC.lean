/- Bursts, plain. No program in sight. -/
import Derived.Test.YtkpfciacfajddaaDoorPlainB
namespace Go.Proofs.YtkpfciacfajddaaDoor.Crc

/-- Bit k inverted. -/
def flip (l : List Nat) (k : Nat) : List Nat := l.set (k / 8) (l.getD (k / 8) 0 ^^^ 2 ^ (k % 8))
/-- Does the burst invert a bit at its place j? -/
def hits (n : Nat) (bit : Int) (pat j : Nat) : Prop := pat / 2 ^ j % 2 = 1 ∧ 0 ≤ bit + j ∧ bit + j < 8 * n
instance (n : Nat) (bit : Int) (pat j : Nat) : Decidable (hits n bit pat j) := by unfold hits; exact inferInstance
/-- The first j places of the burst. -/
def burst (l : List Nat) (bit : Int) (pat : Nat) : Nat → List Nat
  | 0 => l
  | j + 1 => if hits l.length bit pat j then flip (burst l bit pat j) (bit + j).toNat else burst l bit pat j
theorem flip_len (l : List Nat) (k : Nat) : (flip l k).length = l.length := by simp [flip]
theorem burst_len (l : List Nat) (bit : Int) (pat j : Nat) : (burst l bit pat j).length = l.length := by
  induction j with
  | zero => rfl
  | succ j ih => simp only [burst]; split <;> simp [flip_len, ih]
theorem flip_bytes {l : List Nat} (hl : ∀ b ∈ l, b < 256) (k : Nat) : ∀ b ∈ flip l k, b < 256 := by
  intro b hb
  rcases List.mem_or_eq_of_mem_set hb with h | h
  · exact hl b h
  · rw [h]
    refine Nat.xor_lt_two_pow (n := 8) ?_ ?_
    · by_cases hk : k / 8 < l.length
      · simp only [List.getD, List.getElem?_eq_getElem hk, Option.getD_some]; exact hl _ (List.getElem_mem hk)
      · simp only [List.getD, List.getElem?_eq_none (show l.length ≤ k / 8 by omega), Option.getD_none]; omega
    · exact Nat.pow_lt_pow_right (by omega) (Nat.mod_lt _ (by omega))
theorem burst_bytes {l : List Nat} (hl : ∀ b ∈ l, b < 256) (bit : Int) (pat j : Nat) : ∀ b ∈ burst l bit pat j, b < 256 := by
  induction j with
  | zero => exact hl
  | succ j ih =>
    simp only [burst]; split
    · exact flip_bytes ih _
    · exact ih
theorem burst_out (l : List Nat) (bit : Int) (pat j : Nat) (hj : j ≤ 32) (h : bit < -31 ∨ 8 * (l.length : Int) ≤ bit) : burst l bit pat j = l := by
  induction j with
  | zero => rfl
  | succ j ih =>
    simp only [burst]
    rw [if_neg, ih (by omega)]
    unfold hits
    omega
end Go.Proofs.YtkpfciacfajddaaDoor.Crc
