/- Plain arithmetic of CRC-32C on natural numbers: no program in sight. -/
namespace Go.Proofs.YtkpfciacfajddaaDoor.Crc

/-- The reflected polynomial. -/
def poly : Nat := 2197175160
/-- One zero bit. -/
def S (x : Nat) : Nat := x / 2 ^^^ x % 2 * poly
/-- n zero bits. -/
def SN : Nat → Nat → Nat
  | 0, x => x
  | n + 1, x => SN n (S x)
def nib : List Nat := [0, 274646895, 549293790, 820201905, 1098587580, 1361435347, 1640403810, 1905808397, 2197175160, 2460548119, 2722870694, 2987750089, 3280807620, 3553878443, 3811616794, 4084100981]
def half (x : Nat) : Nat := x / 16 ^^^ nib.getD (x % 16) 0
/-- One byte, as the program takes it. -/
def step (r b : Nat) : Nat := half (half (r ^^^ b))
def reg (r : Nat) (l : List Nat) : Nat := l.foldl step r
def ones : Nat := 4294967295
def update (c : Nat) (l : List Nat) : Nat := reg (c ^^^ ones) l ^^^ ones
def sum (l : List Nat) : Nat := update 0 l

theorem xor_div2 (x y : Nat) : (x ^^^ y) / 2 = x / 2 ^^^ y / 2 := by
  exact Nat.xor_div_two
theorem xor_mod2 (x y : Nat) : (x ^^^ y) % 2 = (x % 2 + y % 2) % 2 := by
  have h := @Nat.xor_mod_two_pow x y 1
  simp only [Nat.pow_one] at h
  rw [h]
  have hx : x % 2 = 0 ∨ x % 2 = 1 := by omega
  have hy : y % 2 = 0 ∨ y % 2 = 1 := by omega
  rcases hx with hx | hx <;> rcases hy with hy | hy <;> rw [hx, hy] <;> rfl
theorem xor4 (a b c d : Nat) : (a ^^^ b) ^^^ (c ^^^ d) = (a ^^^ c) ^^^ (b ^^^ d) := by
  rw [Nat.xor_assoc, Nat.xor_assoc, ← Nat.xor_assoc b c d, Nat.xor_comm b c, Nat.xor_assoc c b d]
theorem bitmul (x y p : Nat) : (x % 2 + y % 2) % 2 * p = x % 2 * p ^^^ y % 2 * p := by
  have hx : x % 2 = 0 ∨ x % 2 = 1 := by omega
  have hy : y % 2 = 0 ∨ y % 2 = 1 := by omega
  rcases hx with hx | hx <;> rcases hy with hy | hy <;> rw [hx, hy] <;> simp
theorem S_xor (x y : Nat) : S (x ^^^ y) = S x ^^^ S y := by
  unfold S
  rw [xor_div2, xor_mod2, bitmul, xor4]
theorem S_double (y : Nat) : S (2 * y) = y := by
  unfold S
  rw [Nat.mul_div_cancel_left _ (by omega), Nat.mul_mod_right]; simp
theorem SN_xor (n x y : Nat) : SN n (x ^^^ y) = SN n x ^^^ SN n y := by
  induction n generalizing x y with
  | zero => rfl
  | succ n ih => simp only [SN, S_xor, ih]
theorem SN_add (n m x : Nat) : SN (n + m) x = SN n (SN m x) := by
  induction m generalizing x with
  | zero => rfl
  | succ m ih => rw [← Nat.add_assoc]; simp only [SN, ih]
theorem SN_zero (n : Nat) : SN n 0 = 0 := by
  induction n with
  | zero => rfl
  | succ n ih => simpa [SN, S] using ih
theorem SN_shift (n y : Nat) : SN n (2 ^ n * y) = y := by
  induction n generalizing y with
  | zero => simp [SN]
  | succ n ih =>
    rw [show 2 ^ (n + 1) * y = 2 * (2 ^ n * y) by rw [Nat.pow_succ, Nat.mul_comm (2 ^ n) 2, Nat.mul_assoc]]
    simp only [SN, S_double, ih]
/-- x as its high part and its low part. -/
theorem split_xor (n x : Nat) : x = 2 ^ n * (x / 2 ^ n) ^^^ x % 2 ^ n := by
  apply Nat.eq_of_testBit_eq
  intro i
  rw [Nat.testBit_xor, Nat.testBit_two_pow_mul, Nat.testBit_mod_two_pow]
  by_cases h : n ≤ i
  · have h2 : ¬ i < n := by omega
    simp only [h, h2, decide_true, decide_false, Bool.true_and, Bool.false_and, Bool.xor_false]
    rw [Nat.testBit_div_two_pow]; congr 1; omega
  · have h2 : i < n := by omega
    simp [h, h2]
theorem nib_eq : ∀ i, i < 16 → nib.getD i 0 = SN 4 i := by decide
theorem half_eq (x : Nat) : half x = SN 4 x := by
  have h := split_xor 4 x
  rw [show (2 : Nat) ^ 4 = 16 from rfl] at h
  have hm : x % 16 < 16 := Nat.mod_lt _ (by omega)
  conv => rhs; rw [h]
  rw [SN_xor, ← nib_eq _ hm]
  have := SN_shift 4 (x / 16)
  rw [show (2 : Nat) ^ 4 = 16 from rfl] at this
  rw [this]; rfl
theorem step_eq (r b : Nat) : step r b = SN 8 (r ^^^ b) := by
  unfold step
  rw [half_eq, half_eq, ← SN_add]
theorem S_lt {x : Nat} (h : x < 4294967296) : S x < 4294967296 := by
  unfold S
  have hm : x % 2 = 0 ∨ x % 2 = 1 := by omega
  exact Nat.xor_lt_two_pow (n := 32) (by omega) (by rcases hm with hm | hm <;> rw [hm] <;> simp [poly])
theorem SN_lt (n : Nat) {x : Nat} (h : x < 4294967296) : SN n x < 4294967296 := by
  induction n generalizing x with
  | zero => exact h
  | succ n ih => exact ih (S_lt h)
theorem xor_lt {x y : Nat} (hx : x < 4294967296) (hy : y < 4294967296) : x ^^^ y < 4294967296 := Nat.xor_lt_two_pow (n := 32) hx hy
theorem half_lt {x : Nat} (h : x < 4294967296) : half x < 4294967296 := by rw [half_eq]; exact SN_lt 4 h
theorem step_lt {r b : Nat} (hr : r < 4294967296) (hb : b < 256) : step r b < 4294967296 := by
  rw [step_eq]; exact SN_lt 8 (xor_lt hr (by omega))
theorem reg_lt {r : Nat} {l : List Nat} (hr : r < 4294967296) (hl : ∀ b ∈ l, b < 256) : reg r l < 4294967296 := by
  induction l generalizing r with
  | nil => exact hr
  | cons b l ih => exact ih (step_lt hr (hl b (by simp))) (fun c hc => hl c (by simp [hc]))
theorem reg_append (r : Nat) (l m : List Nat) : reg r (l ++ m) = reg (reg r l) m := List.foldl_append ..
theorem reg_snoc (r : Nat) (l : List Nat) (b : Nat) : reg r (l ++ [b]) = step (reg r l) b := by rw [reg_append]; rfl
theorem update_lt {c : Nat} {l : List Nat} (hc : c < 4294967296) (hl : ∀ b ∈ l, b < 256) : update c l < 4294967296 :=
  xor_lt (reg_lt (xor_lt hc (by decide)) hl) (by decide)
theorem sum_lt {l : List Nat} (hl : ∀ b ∈ l, b < 256) : sum l < 4294967296 := update_lt (by decide) hl

theorem sum_eq (l : List Nat) : reg 4294967295 l ^^^ ones = sum l := by
  unfold sum update
  rw [show 0 ^^^ ones = 4294967295 from by decide]
/-- One bit, as the reference takes it: bit k of b. -/
def rbit (r b k : Nat) : Nat := r / 2 ^^^ (r % 2 + b / 2 ^ k % 2) % 2 * poly
/-- k bits of b. -/
def rbits (r b : Nat) : Nat → Nat
  | 0 => r
  | k + 1 => rbit (rbits r b k) b k
theorem S_SN (n x : Nat) : S (SN n x) = SN (n + 1) x := by rw [Nat.add_comm, SN_add]; rfl
theorem rbits_eq (r b k : Nat) : rbits r b k ^^^ b / 2 ^ k = SN k (r ^^^ b) := by
  induction k with
  | zero => simp [rbits, SN]
  | succ k ih =>
    rw [← S_SN, ← ih]
    simp only [rbits, rbit, S]
    rw [xor_div2, xor_mod2, Nat.div_div_eq_div_mul, ← Nat.pow_succ]
    rw [Nat.xor_assoc, Nat.xor_assoc, Nat.xor_comm (_ * poly)]
theorem rbits_step (r b : Nat) (hb : b < 256) : rbits r b 8 = step r b := by
  have h := rbits_eq r b 8
  rw [Nat.div_eq_of_lt (by simpa using hb), Nat.xor_zero] at h
  rw [h, step_eq]
theorem rbits_lt {r b : Nat} (hr : r < 4294967296) (k : Nat) : rbits r b k < 4294967296 := by
  induction k with
  | zero => exact hr
  | succ k ih =>
    simp only [rbits, rbit]
    have hm : (rbits r b k % 2 + b / 2 ^ k % 2) % 2 = 0 ∨ (rbits r b k % 2 + b / 2 ^ k % 2) % 2 = 1 := by omega
    exact xor_lt (by omega) (by rcases hm with hm | hm <;> rw [hm] <;> simp [poly])
end Go.Proofs.YtkpfciacfajddaaDoor.Crc
