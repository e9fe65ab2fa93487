/- Combination, plain: products modulo the polynomial and powers of the map of one zero bit. -/
import Derived.Test.YtkpfciacfajddaaDoorPlainD
namespace Go.Proofs.YtkpfciacfajddaaDoor.Crc

/-- The first j rounds of a product. -/
def mulTo (a b : Nat) : Nat → Nat
  | 0 => 0
  | j + 1 => mulTo a b j ^^^ a / 2 ^ (31 - j) % 2 * SN j b
def mul (a b : Nat) : Nat := mulTo a b 32
theorem bit_mul_xor (t x y : Nat) : t % 2 * (x ^^^ y) = t % 2 * x ^^^ t % 2 * y := by
  have h : t % 2 = 0 ∨ t % 2 = 1 := by omega
  rcases h with h | h <;> rw [h] <;> simp
theorem mulTo_xor (a x y j : Nat) : mulTo a (x ^^^ y) j = mulTo a x j ^^^ mulTo a y j := by
  induction j with
  | zero => simp [mulTo]
  | succ j ih => simp only [mulTo, ih, SN_xor, bit_mul_xor]; rw [xor4]
theorem S_bit (t x : Nat) : S (t % 2 * x) = t % 2 * S x := by
  have h : t % 2 = 0 ∨ t % 2 = 1 := by omega
  rcases h with h | h <;> rw [h] <;> simp [S]
theorem SN_S (n x : Nat) : SN n (S x) = S (SN n x) := (S_SN n x).symm
theorem mulTo_S (a b j : Nat) : mulTo a (S b) j = S (mulTo a b j) := by
  induction j with
  | zero => simp [mulTo, S]
  | succ j ih => simp only [mulTo, ih, S_xor, S_bit, SN_S]
theorem SN_top (j : Nat) (hj : j ≤ 31) : SN j 2147483648 = 2 ^ (31 - j) := by
  have h := SN_shift j (2 ^ (31 - j))
  rw [← Nat.pow_add, show j + (31 - j) = 31 by omega] at h
  exact h
theorem top_step (k y : Nat) : 2 ^ (k + 1) * (y / 2) ^^^ y % 2 * 2 ^ k = 2 ^ k * y := by
  have h := split_xor 1 y
  rw [Nat.pow_one] at h
  conv => rhs; rw [h]
  rw [mul_xor, Nat.pow_succ, Nat.mul_assoc, Nat.mul_comm (y % 2)]
theorem mulTo_one (a j : Nat) (ha : a < 4294967296) (hj : j ≤ 32) : mulTo a 2147483648 j = 2 ^ (32 - j) * (a / 2 ^ (32 - j)) := by
  induction j with
  | zero => simp only [mulTo]; rw [Nat.div_eq_of_lt (by simpa using ha)]
  | succ j ih =>
    simp only [mulTo]
    rw [ih (by omega), SN_top j (by omega), show 32 - j = (31 - j) + 1 by omega, show 32 - (j + 1) = 31 - j by omega]
    rw [← top_step (31 - j) (a / 2 ^ (31 - j)), Nat.div_div_eq_div_mul, Nat.pow_succ]
theorem mul_one (a : Nat) (ha : a < 4294967296) : mul a 2147483648 = a := by
  have := mulTo_one a 32 ha (by omega)
  simpa [mul] using this
/-- Two additive maps that commute with S and agree at the top bit are one. -/
theorem ext_map (F G : Nat → Nat) (hF : ∀ x y, F (x ^^^ y) = F x ^^^ F y) (hG : ∀ x y, G (x ^^^ y) = G x ^^^ G y) (hFS : ∀ x, F (S x) = S (F x)) (hGS : ∀ x, G (S x) = S (G x))
    (h : F 2147483648 = G 2147483648) (b : Nat) (hb : b < 4294967296) : F b = G b := by
  have h0 : F 0 = 0 ∧ G 0 = 0 := by
    constructor
    · have := hF 0 0; simpa [Nat.xor_self] using this
    · have := hG 0 0; simpa [Nat.xor_self] using this
  have hp : ∀ j, j ≤ 31 → F (2 ^ (31 - j)) = G (2 ^ (31 - j)) := by
    intro j
    induction j with
    | zero => intro _; exact h
    | succ j ih =>
      intro hj
      have e : 2 ^ (31 - (j + 1)) = S (2 ^ (31 - j)) := by
        rw [show 31 - j = (31 - (j + 1)) + 1 by omega, Nat.pow_succ, Nat.mul_comm, S_double]
      rw [e, hFS, hGS, ih (by omega)]
  have hk : ∀ k, k ≤ 32 → F (b % 2 ^ k) = G (b % 2 ^ k) := by
    intro k
    induction k with
    | zero => intro _; rw [Nat.pow_zero, Nat.mod_one, h0.1, h0.2]
    | succ k ih =>
      intro hk
      have e : b % 2 ^ (k + 1) = 2 ^ k * (b / 2 ^ k % 2) ^^^ b % 2 ^ k := by
        have := split_xor k (b % 2 ^ (k + 1))
        rw [Nat.pow_succ, Nat.mod_mul_right_div_self, Nat.mod_mul_right_mod] at this
        rw [Nat.pow_succ]
        exact this
      rw [e, hF, hG, ih (by omega)]
      have hm : b / 2 ^ k % 2 = 0 ∨ b / 2 ^ k % 2 = 1 := by omega
      rcases hm with hm | hm <;> rw [hm]
      · rw [Nat.mul_zero, h0.1, h0.2]
      · rw [Nat.mul_one]
        have := hp (31 - k) (by omega)
        rw [show 31 - (31 - k) = k by omega] at this
        rw [this]
  have := hk 32 (by omega)
  rwa [Nat.mod_eq_of_lt (by simpa using hb)] at this
/-- The power m, as a number. -/
def pw (m : Nat) : Nat := SN m 2147483648
theorem pw_lt (m : Nat) : pw m < 4294967296 := SN_lt m (by decide)
theorem mul_pw (m b : Nat) (hb : b < 4294967296) : mul (pw m) b = SN m b :=
  ext_map (mul (pw m)) (SN m) (fun x y => mulTo_xor _ x y 32) (SN_xor m) (fun x => mulTo_S _ x 32) (SN_S m) (mul_one _ (pw_lt m)) b hb
theorem pw_pw (m : Nat) : mul (pw m) (pw m) = pw (2 * m) := by
  rw [mul_pw m _ (pw_lt m), pw, ← SN_add, show m + m = 2 * m by omega]; rfl
theorem pw8 : pw 8 = 8388608 := by decide
theorem mulTo_lt (a b j : Nat) (hb : b < 4294967296) : mulTo a b j < 4294967296 := by
  induction j with
  | zero => simp [mulTo]
  | succ j ih =>
    simp only [mulTo]
    have hm : a / 2 ^ (31 - j) % 2 = 0 ∨ a / 2 ^ (31 - j) % 2 = 1 := by omega
    exact xor_lt ih (by rcases hm with hm | hm <;> rw [hm] <;> simp [SN_lt j hb])

/-- The reference's map: what it makes of the first k bits of v. -/
def applyTo (m : List Nat) (v : Nat) : Nat → Nat
  | 0 => 0
  | k + 1 => applyTo m v k ^^^ v / 2 ^ k % 2 * m.getD k 0
def cols (M : Nat) : List Nat := (List.range 32).map fun i => SN M (2 ^ i)
theorem cols_at (M i : Nat) (hi : i < 32) : (cols M).getD i 0 = SN M (2 ^ i) := by simp [cols, List.getD, hi]
theorem applyTo_cols (M v k : Nat) (hk : k ≤ 32) : applyTo (cols M) v k = SN M (v % 2 ^ k) := by
  induction k with
  | zero => simp [applyTo, Nat.mod_one, SN_zero]
  | succ k ih =>
    have e : v % 2 ^ (k + 1) = 2 ^ k * (v / 2 ^ k % 2) ^^^ v % 2 ^ k := by
      have := split_xor k (v % 2 ^ (k + 1))
      rw [Nat.pow_succ, Nat.mod_mul_right_div_self, Nat.mod_mul_right_mod] at this
      rw [Nat.pow_succ]
      exact this
    simp only [applyTo]
    rw [ih (by omega), cols_at M k (by omega), e, SN_xor]
    have hm : v / 2 ^ k % 2 = 0 ∨ v / 2 ^ k % 2 = 1 := by omega
    rcases hm with hm | hm <;> rw [hm]
    · simp [SN_zero]
    · rw [Nat.one_mul, Nat.mul_one, Nat.xor_comm]
theorem apply_cols (M v : Nat) (hv : v < 4294967296) : applyTo (cols M) v 32 = SN M v := by
  rw [applyTo_cols M v 32 (by omega), Nat.mod_eq_of_lt (by simpa using hv)]
theorem cols_lt (M : Nat) : ∀ b ∈ cols M, b < 4294967296 := by
  intro b hb
  simp only [cols, List.mem_map, List.mem_range] at hb
  obtain ⟨i, hi, rfl⟩ := hb
  exact SN_lt M (Nat.pow_lt_pow_right (n := 32) (by omega) hi)
def combine (a b : Nat) (n : Int) : Nat := SN (8 * n.toNat) a ^^^ b
theorem joins (x y : List Nat) (hy : ∀ b ∈ y, b < 256) : combine (sum x) (sum y) (y.length : Int) = sum (x ++ y) := by
  unfold combine
  rw [Int.toNat_natCast]
  unfold sum update
  rw [reg_append, reg_val y _ hy, reg_val y _ hy]
  simp only [Nat.zero_xor, SN_xor]
  generalize SN (8 * y.length) (reg ones x) = p
  generalize SN (8 * y.length) ones = q
  generalize SN (8 * y.length) (val y) = r
  rw [Nat.xor_assoc p q, Nat.xor_assoc q r, ← Nat.xor_assoc q q, Nat.xor_self, Nat.zero_xor, Nat.xor_assoc p r]
end Go.Proofs.YtkpfciacfajddaaDoor.Crc
