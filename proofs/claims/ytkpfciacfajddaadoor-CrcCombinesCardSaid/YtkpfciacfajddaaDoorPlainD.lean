/- Every burst that changes the bytes changes the checksum, plain. -/
import Derived.Test.YtkpfciacfajddaaDoorPlainC
namespace Go.Proofs.YtkpfciacfajddaaDoor.Crc

/-- The number whose bytes these are, the lowest first. -/
def val : List Nat → Nat
  | [] => 0
  | b :: l => b + 256 * val l
theorem reg_val : ∀ (d : List Nat) (r : Nat), (∀ b ∈ d, b < 256) → reg r d = SN (8 * d.length) (r ^^^ val d)
  | [], r, _ => by simp [reg, val, SN]
  | b :: d, r, h => by
    have hb := h b (by simp)
    have e1 : val (b :: d) % 256 = b := by simp only [val]; omega
    have e2 : val (b :: d) / 256 = val d := by simp only [val]; omega
    show reg (step r b) d = _
    rw [reg_val d _ (fun c hc => h c (by simp [hc]))]
    rw [show 8 * (b :: d).length = 8 * d.length + 8 by simp [Nat.mul_add], SN_add, step_shift, e1, e2]
theorem S_zero {x : Nat} (hx : x < 4294967296) (h : S x = 0) : x = 0 := by
  unfold S at h
  have h1 : x / 2 = x % 2 * poly := by
    have := congrArg (· ^^^ x % 2 * poly) h
    simpa [Nat.xor_assoc, Nat.xor_self] using this
  have hm : x % 2 = 0 ∨ x % 2 = 1 := by omega
  rcases hm with hm | hm
  · rw [hm] at h1; omega
  · rw [hm] at h1; simp only [poly] at h1; omega
theorem SN_zero_inv (n : Nat) {x : Nat} (hx : x < 4294967296) (h : SN n x = 0) : x = 0 := by
  induction n generalizing x with
  | zero => exact h
  | succ n ih => exact S_zero hx (ih (S_lt hx) h)
theorem add_xor (b m : Nat) (hb : b < 256) : b + 256 * m = 256 * m ^^^ b := by
  have h := split_xor 8 (b + 256 * m)
  rw [show (2 : Nat) ^ 8 = 256 from rfl, show (b + 256 * m) / 256 = m by omega, show (b + 256 * m) % 256 = b by omega] at h
  exact h
theorem mul_xor (n x y : Nat) : 2 ^ n * (x ^^^ y) = 2 ^ n * x ^^^ 2 ^ n * y := by
  apply Nat.eq_of_testBit_eq
  intro i
  rw [Nat.testBit_xor, Nat.testBit_two_pow_mul, Nat.testBit_two_pow_mul, Nat.testBit_two_pow_mul, Nat.testBit_xor]
  cases decide (n ≤ i) <;> simp
theorem val_set : ∀ (l : List Nat) (i t : Nat), (∀ b ∈ l, b < 256) → i < l.length → t < 8 → val (l.set i (l.getD i 0 ^^^ 2 ^ t)) = val l ^^^ 2 ^ (8 * i + t)
  | [], i, t, _, hi, _ => by simp at hi
  | b :: l, 0, t, h, _, ht => by
    have hb := h b (by simp)
    have hx : b ^^^ 2 ^ t < 256 := Nat.xor_lt_two_pow (n := 8) hb (Nat.pow_lt_pow_right (by omega) ht)
    simp only [List.set_cons_zero, List.getD, List.getElem?_cons_zero, Option.getD_some, val]
    rw [add_xor _ _ hx, add_xor _ _ hb, Nat.xor_assoc, Nat.mul_zero, Nat.zero_add]
  | b :: l, i + 1, t, h, hi, ht => by
    have hb := h b (by simp)
    have ih := val_set l i t (fun c hc => h c (by simp [hc])) (by simpa using hi) ht
    simp only [List.getD] at ih
    simp only [List.set_cons_succ, List.getD, List.getElem?_cons_succ, val]
    rw [ih, add_xor _ _ hb, add_xor _ _ hb, show (256 : Nat) = 2 ^ 8 from rfl, mul_xor, ← Nat.pow_add, show 8 + (8 * i + t) = 8 * (i + 1) + t by omega]
    rw [Nat.xor_assoc, Nat.xor_assoc, Nat.xor_comm (2 ^ (8 * (i + 1) + t))]
theorem val_flip (l : List Nat) (k : Nat) (hl : ∀ b ∈ l, b < 256) (hk : k < 8 * l.length) : val (flip l k) = val l ^^^ 2 ^ k := by
  unfold flip
  rw [val_set l (k / 8) (k % 8) hl (by omega) (Nat.mod_lt _ (by omega)), Nat.div_add_mod]
theorem val_inj : ∀ (x y : List Nat), x.length = y.length → (∀ b ∈ x, b < 256) → (∀ b ∈ y, b < 256) → val x = val y → x = y
  | [], [], _, _, _, _ => rfl
  | [], _ :: _, h, _, _, _ => by simp at h
  | _ :: _, [], h, _, _, _ => by simp at h
  | a :: x, b :: y, h, hx, hy, e => by
    have ha := hx a (by simp)
    have hb := hy b (by simp)
    simp only [val] at e
    have e1 : a = b := by omega
    have e2 : val x = val y := by omega
    rw [e1, val_inj x y (by simpa using h) (fun c hc => hx c (by simp [hc])) (fun c hc => hy c (by simp [hc])) e2]
/-- What the first j places of a burst do to the number: a window of at most 32 bits. -/
theorem burst_window (l : List Nat) (hl : ∀ b ∈ l, b < 256) (bit : Int) (pat s : Nat) (hs : (s : Int) = max bit 0) (hs2 : s ≤ 8 * l.length) : ∀ j, j ≤ 32 → ∃ v, v < 4294967296 ∧ val (burst l bit pat j) = val l ^^^ 2 ^ s * v
  | 0, _ => ⟨0, by omega, by simp [burst]⟩
  | j + 1, hj => by
    obtain ⟨v, hv, e⟩ := burst_window l hl bit pat s hs hs2 j (by omega)
    simp only [burst]
    by_cases hh : hits l.length bit pat j
    · rw [if_pos hh]
      obtain ⟨_, h1, h2⟩ := hh
      have hk : (bit + j).toNat < 8 * (burst l bit pat j).length := by rw [burst_len]; omega
      have hd : (bit + j).toNat = s + ((bit + j).toNat - s) := by omega
      refine ⟨v ^^^ 2 ^ ((bit + j).toNat - s), xor_lt hv (Nat.pow_lt_pow_right (n := 32) (by omega) (by omega)), ?_⟩
      rw [val_flip _ _ (burst_bytes hl bit pat j) hk, e, mul_xor, ← Nat.pow_add, ← hd, Nat.xor_assoc]
    · rw [if_neg hh]
      exact ⟨v, hv, e⟩
theorem detects (l : List Nat) (hl : ∀ b ∈ l, b < 256) (bit : Int) (pat : Nat) (h : sum (burst l bit pat 32) = sum l) : burst l bit pat 32 = l := by
  by_cases ho : 8 * (l.length : Int) ≤ bit
  · exact burst_out l bit pat 32 (by omega) (.inr ho)
  · obtain ⟨v, hv, e⟩ := burst_window l hl bit pat (max bit 0).toNat (by omega) (by omega) 32 (by omega)
    generalize hs : (max bit 0).toNat = s at *
    have hbb := burst_bytes hl bit pat 32
    have hlen := burst_len l bit pat 32
    have h1 : reg (0 ^^^ ones) (burst l bit pat 32) = reg (0 ^^^ ones) l := by
      have := congrArg (· ^^^ ones) h
      simpa [sum, update, Nat.xor_assoc, Nat.xor_self] using this
    rw [reg_val _ _ hbb, reg_val _ _ hl, hlen, e] at h1
    rw [← Nat.xor_assoc, SN_xor] at h1
    have h2 : SN (8 * l.length) (2 ^ s * v) = 0 := by
      have := congrArg (SN (8 * l.length) (0 ^^^ ones ^^^ val l) ^^^ ·) h1
      simpa [← Nat.xor_assoc, Nat.xor_self] using this
    rw [show 8 * l.length = (8 * l.length - s) + s by omega, SN_add, SN_shift] at h2
    have h3 := SN_zero_inv _ hv h2
    subst h3
    refine val_inj _ _ hlen hbb hl ?_
    rw [e]; simp
end Go.Proofs.YtkpfciacfajddaaDoor.Crc
