/- Plain: what the reference's UTF8 looks at, against the library's validity. -/
import Derived.Test.YtophcoaikelopaaDoorWI
namespace Go.Proofs.YtophcoaikelopaaDoor
open Go.RowKit Go.Lib

/-- A lead byte: how many bytes follow, the first bits, the least rune. -/
def Lead (b0 n : Nat) (r0 least : Int) : Prop :=
  (n = 0 ∧ b0 < 128 ∧ r0 = b0 ∧ least = 0) ∨ (n = 1 ∧ 192 ≤ b0 ∧ b0 < 224 ∧ r0 = b0 - 192 ∧ least = 128) ∨
  (n = 2 ∧ 224 ≤ b0 ∧ b0 < 240 ∧ r0 = b0 - 224 ∧ least = 2048) ∨ (n = 3 ∧ 240 ≤ b0 ∧ b0 < 248 ∧ r0 = b0 - 240 ∧ least = 65536)
/-- The rune's bits through j - 1 further bytes. -/
def bits (r0 : Int) (g : Nat → Nat) : Nat → Int
  | 0 => r0
  | j + 1 => 64 * bits r0 g j + (g (j + 1) : Int) - 128
def OutR (r least : Int) : Prop := r < least ∨ 1114111 < r ∨ (55296 ≤ r ∧ r < 57344)

section
variable (n b0 b1 b2 b3 m : Nat) (r0 least : Int)
theorem dec_short (hL : Lead b0 m r0 least) (hs : n ≤ m) (hn : 0 < n) : decodeN n b0 b1 b2 b3 = (65533, 1) := by
  unfold decodeN
  rcases hL with ⟨h, h0⟩ | ⟨h, h0⟩ | ⟨h, h0⟩ | ⟨h, h0⟩
  · omega
  all_goals (rw [if_neg (by omega)]; (repeat' split) <;> first | rfl | (exfalso; omega))
theorem dec_cont (hL : Lead b0 m r0 least) (hc : (1 ≤ m ∧ ¬ (128 ≤ b1 ∧ b1 < 192)) ∨ (2 ≤ m ∧ ¬ (128 ≤ b2 ∧ b2 < 192)) ∨ (3 ≤ m ∧ ¬ (128 ≤ b3 ∧ b3 < 192))) : decodeN n b0 b1 b2 b3 = (65533, 1) := by
  unfold decodeN
  rcases hL with ⟨h, h0⟩ | ⟨h, h0⟩ | ⟨h, h0⟩ | ⟨h, h0⟩
  · omega
  all_goals (rw [if_neg (by omega)]; (repeat' split) <;> first | rfl | (exfalso; omega))
theorem dec_no (hb : (128 ≤ b0 ∧ b0 < 192) ∨ 248 ≤ b0) (h8 : b0 < 256) : decodeN n b0 b1 b2 b3 = (65533, 1) := by
  unfold decodeN
  rw [if_neg (by omega)]; (repeat' split) <;> first | rfl | (exfalso; omega)
theorem dec_out (g : Nat → Nat) (hL : Lead b0 m r0 least) (h1 : 1 ≤ m → 128 ≤ g 1 ∧ g 1 < 192) (h2 : 2 ≤ m → 128 ≤ g 2 ∧ g 2 < 192) (h3 : 3 ≤ m → 128 ≤ g 3 ∧ g 3 < 192)
    (ho : OutR (bits r0 g m) least) : decodeN n b0 (g 1) (g 2) (g 3) = (65533, 1) := by
  unfold decodeN
  unfold OutR at ho
  rcases hL with ⟨h, h0⟩ | ⟨h, h0⟩ | ⟨h, h0⟩ | ⟨h, h0⟩
  all_goals (subst h; simp only [bits, Nat.zero_add, Nat.reduceAdd] at ho)
  · omega
  all_goals (rw [if_neg (by omega)]; (repeat' split) <;> first | rfl | (exfalso; omega))
theorem dec_good (g : Nat → Nat) (hL : Lead b0 m r0 least) (hn : m < n) (h1 : 1 ≤ m → 128 ≤ g 1 ∧ g 1 < 192) (h2 : 2 ≤ m → 128 ≤ g 2 ∧ g 2 < 192) (h3 : 3 ≤ m → 128 ≤ g 3 ∧ g 3 < 192)
    (ho : ¬ OutR (bits r0 g m) least) : ¬ ((decodeN n b0 (g 1) (g 2) (g 3)).1 = 65533 ∧ (decodeN n b0 (g 1) (g 2) (g 3)).2 = 1) ∧ (decodeN n b0 (g 1) (g 2) (g 3)).2 = m + 1 := by
  unfold decodeN
  unfold OutR at ho
  rcases hL with ⟨h, h0⟩ | ⟨h, h0⟩ | ⟨h, h0⟩ | ⟨h, h0⟩
  all_goals (subst h; simp only [bits, Nat.zero_add, Nat.reduceAdd] at ho)
  · rw [if_pos (by omega)]; simp; omega
  · have := h1 (by omega)
    rw [if_neg (by omega), if_pos (by omega), if_pos (by omega)]; simp
  · have := h1 (by omega)
    have := h2 (by omega)
    rw [if_neg (by omega), if_neg (by omega), if_pos (by omega), if_pos (by omega)]; simp
  · have := h1 (by omega)
    have := h2 (by omega)
    have := h3 (by omega)
    rw [if_neg (by omega), if_neg (by omega), if_neg (by omega), if_pos (by omega), if_pos (by omega)]; simp
end
def gb (l : List UInt8) (m : Nat) : Nat := (l.getD m 0).toNat
theorem u_short (l : List UInt8) (hne : l ≠ []) (m : Nat) (r0 least : Int) (hL : Lead (gb l 0) m r0 least) (hs : l.length ≤ m) : validD l = false := by
  have hd := fun b1 b2 b3 => dec_short l.length (gb l 0) b1 b2 b3 m r0 least hL hs (List.length_pos_iff.2 hne)
  rw [validD_step l hne, decodeL_N]; unfold gb at hd; rw [hd]; rfl
theorem u_no (l : List UInt8) (hne : l ≠ []) (hb : (128 ≤ gb l 0 ∧ gb l 0 < 192) ∨ 248 ≤ gb l 0) : validD l = false := by
  have hd := fun b1 b2 b3 => dec_no l.length (gb l 0) b1 b2 b3 hb (UInt8.toNat_lt _)
  rw [validD_step l hne, decodeL_N]; unfold gb at hd; rw [hd]; rfl
theorem u_cont (l : List UInt8) (hne : l ≠ []) (m : Nat) (r0 least : Int) (hL : Lead (gb l 0) m r0 least) (j : Nat) (h1 : 1 ≤ j) (h2 : j ≤ m) (hc : ¬ (128 ≤ gb l j ∧ gb l j < 192)) : validD l = false := by
  have : m ≤ 3 := by rcases hL with h | h | h | h <;> omega
  have hj : j = 1 ∨ j = 2 ∨ j = 3 := by omega
  have hd := dec_cont l.length (gb l 0) (gb l 1) (gb l 2) (gb l 3) m r0 least hL ?_
  · rw [validD_step l hne, decodeL_N]; unfold gb at hd; rw [hd]; rfl
  rcases hj with rfl | rfl | rfl
  · exact .inl ⟨h2, hc⟩
  · exact .inr (.inl ⟨h2, hc⟩)
  · exact .inr (.inr ⟨h2, hc⟩)
theorem u_out (l : List UInt8) (hne : l ≠ []) (m : Nat) (r0 least : Int) (hL : Lead (gb l 0) m r0 least) (h : ∀ j, 1 ≤ j → j ≤ m → 128 ≤ gb l j ∧ gb l j < 192) (ho : OutR (bits r0 (gb l) m) least) : validD l = false := by
  have hd := dec_out l.length (gb l 0) m r0 least (gb l) hL (h 1 (Nat.le_refl _)) (h 2 (by omega)) (h 3 (by omega)) ho
  rw [validD_step l hne, decodeL_N]; unfold gb at hd; rw [hd]; rfl
theorem u_good (l : List UInt8) (hne : l ≠ []) (m : Nat) (r0 least : Int) (hL : Lead (gb l 0) m r0 least) (hn : m < l.length) (h : ∀ j, 1 ≤ j → j ≤ m → 128 ≤ gb l j ∧ gb l j < 192) (ho : ¬ OutR (bits r0 (gb l) m) least) : validD l = validD (l.drop (m + 1)) := by
  have hd := dec_good l.length (gb l 0) m r0 least (gb l) hL hn (h 1 (Nat.le_refl _)) (h 2 (by omega)) (h 3 (by omega)) ho
  rw [validD_step l hne, decodeL_N]; unfold gb at hd; rw [if_neg hd.1, hd.2]
theorem bits_le (r0 : Int) (g : Nat → Nat) (h0 : 0 ≤ r0) (h1 : r0 ≤ 127) : ∀ j, (∀ m, 1 ≤ m → m ≤ j → 128 ≤ g m ∧ g m < 192) → 0 ≤ bits r0 g j ∧ bits r0 g j < 128 * 64 ^ j
  | 0, _ => by simp [bits]; omega
  | j + 1, h => by
    have ih := bits_le r0 g h0 h1 j (fun m a b => h m a (by omega))
    have := h (j + 1) (by omega) (Nat.le_refl _)
    simp only [bits, Int.pow_succ]
    omega
theorem gb_drop (s : ByteArray) (k m : Nat) (h : k + m < s.size) : gb (s.data.toList.drop k) m = (s[k + m]).toNat := by
  unfold gb
  rw [← at_data s (k + m) h]
  simp [List.getD, List.getElem?_drop]
end Go.Proofs.YtophcoaikelopaaDoor
