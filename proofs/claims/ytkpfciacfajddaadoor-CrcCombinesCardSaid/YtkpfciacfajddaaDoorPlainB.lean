/- More plain arithmetic of CRC-32C: splitting, residue, linearity, bursts. No program in sight. -/
import Derived.Test.YtkpfciacfajddaaDoorPlain
namespace Go.Proofs.YtkpfciacfajddaaDoor.Crc

theorem not_not (c : Nat) : (c ^^^ ones) ^^^ ones = c := by rw [Nat.xor_assoc, Nat.xor_self, Nat.xor_zero]
theorem update_nil (c : Nat) : update c [] = c := not_not c
theorem update_sum (x y : List Nat) : update (sum x) y = sum (x ++ y) := by
  unfold sum update
  rw [reg_append, not_not]

theorem step_shift (r s : Nat) : SN 8 (r ^^^ s) = step r (s % 256) ^^^ s / 256 := by
  rw [step_eq]
  have h := split_xor 8 s
  rw [show (2 : Nat) ^ 8 = 256 from rfl] at h
  have h2 := SN_shift 8 (s / 256)
  rw [show (2 : Nat) ^ 8 = 256 from rfl] at h2
  conv => lhs; rw [h]
  rw [Nat.xor_comm (256 * _), ← Nat.xor_assoc, SN_xor, h2]
/-- The four bytes of a word, the lowest first. -/
def le4 (s : Nat) : List Nat := [s % 256, s / 256 % 256, s / 65536 % 256, s / 16777216 % 256]
theorem reg_le4 (r s : Nat) (hs : s < 4294967296) : reg r (le4 s) = SN 32 (r ^^^ s) := by
  have e1 := step_shift r s
  have e2 := step_shift (step r (s % 256)) (s / 256)
  have e3 := step_shift (step (step r (s % 256)) (s / 256 % 256)) (s / 256 / 256)
  have e4 := step_shift (step (step (step r (s % 256)) (s / 256 % 256)) (s / 256 / 256 % 256)) (s / 256 / 256 / 256)
  rw [show (32 : Nat) = 8 + (8 + (8 + 8)) from rfl, SN_add, SN_add, SN_add, e1, e2, e3, e4]
  have z : s / 256 / 256 / 256 / 256 = 0 := by omega
  rw [z, Nat.xor_zero]
  simp only [reg, le4, List.foldl]
  rw [show s / 65536 = s / 256 / 256 by omega, show s / 16777216 = s / 256 / 256 / 256 by omega]
theorem SN32_ones : SN 32 ones ^^^ ones = 1214729159 := by decide
theorem residue (l : List Nat) (hl : ∀ b ∈ l, b < 256) : sum (l ++ le4 (sum l)) = 1214729159 := by
  have hs := sum_lt hl
  have e : ∀ m, sum m = reg (0 ^^^ ones) m ^^^ ones := fun _ => rfl
  rw [e (l ++ _), reg_append, reg_le4 _ _ hs]
  have : reg (0 ^^^ ones) l ^^^ sum l = ones := by
    unfold sum update
    rw [← Nat.xor_assoc, Nat.xor_self, Nat.zero_xor]
  rw [this]
  exact SN32_ones

theorem step_xor (r s a b : Nat) : step (r ^^^ s) (a ^^^ b) = step r a ^^^ step s b := by
  rw [step_eq, step_eq, step_eq, xor4, SN_xor]
theorem reg_xor : ∀ (x y : List Nat) (r s : Nat), x.length = y.length → reg (r ^^^ s) (List.zipWith (· ^^^ ·) x y) = reg r x ^^^ reg s y
  | [], [], _, _, _ => rfl
  | [], _ :: _, _, _, h => by simp at h
  | _ :: _, [], _, _, h => by simp at h
  | a :: x, b :: y, r, s, h => by
    simp only [List.zipWith_cons_cons]
    show reg (step (r ^^^ s) (a ^^^ b)) _ = reg (step r a) x ^^^ reg (step s b) y
    rw [step_xor, reg_xor x y _ _ (by simpa using h)]
theorem linear (x y z : List Nat) (hxy : x.length = y.length) (hyz : y.length = z.length) :
    sum x ^^^ sum y ^^^ sum z = sum (List.zipWith (· ^^^ ·) (List.zipWith (· ^^^ ·) x y) z) := by
  unfold sum update
  have h1 := reg_xor x y (0 ^^^ ones) (0 ^^^ ones) hxy
  have h2 := reg_xor (List.zipWith (· ^^^ ·) x y) z ((0 ^^^ ones) ^^^ (0 ^^^ ones)) (0 ^^^ ones) (by simp; omega)
  rw [h1, Nat.xor_self, Nat.zero_xor] at h2
  rw [h2]
  generalize reg (0 ^^^ ones) x = a
  generalize reg (0 ^^^ ones) y = b
  generalize reg (0 ^^^ ones) z = c
  generalize ones = o
  rw [xor4 a o b o, Nat.xor_self, Nat.xor_zero, ← Nat.xor_assoc]
end Go.Proofs.YtkpfciacfajddaaDoor.Crc
