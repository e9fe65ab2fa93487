/- The walks of crc.multiply, crc.Combine, and of the law CrcJoins. -/
import Derived.Test.YtkpfciacfajddaaDoorLawB
import Derived.Test.YtkpfciacfajddaaDoorPlainE
namespace Go.Proofs.YtkpfciacfajddaaDoor
open Go.RowKit

theorem and_one_u32 (b : Nat) (hb : b < 4294967296) : (b % 2 = 0 ∧ bits .and .u32 (b : Int) 1 = 0) ∨ (b % 2 = 1 ∧ bits .and .u32 (b : Int) 1 = 1) := by
  have h := u32_and_nat b 1 hb (by omega)
  rw [Nat.and_one_is_mod, show ((1 : Nat) : Int) = 1 from rfl] at h
  have h2 : b % 2 = 0 ∨ b % 2 = 1 := by omega
  rcases h2 with h2 | h2
  · exact .inl ⟨h2, by rw [h, h2]; rfl⟩
  · exact .inr ⟨h2, by rw [h, h2]; rfl⟩
theorem and_top (a j p : Nat) (ha : a < 4294967296) (hj : j < 32) (hp : p = 2147483648 / 2 ^ j) :
    (a / 2 ^ (31 - j) % 2 = 0 ∧ bits .and .u32 (a : Int) (p : Int) = 0) ∨ (a / 2 ^ (31 - j) % 2 = 1 ∧ bits .and .u32 (a : Int) (p : Int) = (p : Int)) := by
  have e : p = 2 ^ (31 - j) := by
    rw [hp, show (2147483648 : Nat) = 2 ^ (31 - j) * 2 ^ j by rw [← Nat.pow_add, show 31 - j + j = 31 by omega]]
    exact Nat.mul_div_cancel _ (Nat.two_pow_pos j)
  have hpl : p < 4294967296 := by rw [e]; exact Nat.pow_lt_pow_right (n := 32) (by omega) (by omega)
  have h := u32_and_nat a p ha hpl
  rw [h, e, nat_bit]
  have h2 : a / 2 ^ (31 - j) % 2 = 0 ∨ a / 2 ^ (31 - j) % 2 = 1 := by omega
  rcases h2 with h2 | h2
  · exact .inl ⟨h2, by rw [h2, Nat.zero_mul]; rfl⟩
  · exact .inr ⟨h2, by rw [h2, Nat.one_mul]⟩
theorem top_pos (j : Nat) (hj : j < 32) : 1 ≤ 2147483648 / 2 ^ j := by
  have h : 2 ^ j ≤ 2 ^ 31 := Nat.pow_le_pow_right (by omega) (by omega)
  exact (Nat.le_div_iff_mul_le (Nat.two_pow_pos j)).2 (by simpa using h)
theorem top_zero : 2147483648 / 2 ^ 32 = 0 := by decide
theorem top_next (j : Nat) : 2147483648 / 2 ^ j / 2 = 2147483648 / 2 ^ (j + 1) := by rw [Nat.div_div_eq_div_mul, Nat.pow_succ]
theorem SN_one_even (j b q : Nat) (hq : Crc.SN j b = q) (h : q % 2 = 0) : q / 2 = Crc.SN (j + 1) b := by
  rw [← Crc.S_SN, hq, Crc.S, h]; simp
theorem SN_one_odd (j b q : Nat) (hq : Crc.SN j b = q) (h : q % 2 = 1) : q / 2 ^^^ Crc.poly = Crc.SN (j + 1) b := by
  rw [← Crc.S_SN, hq, Crc.S, h]; simp
theorem mul_no (a b j : Nat) (h : a / 2 ^ (31 - j) % 2 = 0) : Crc.mulTo a b j = Crc.mulTo a b (j + 1) := by simp [Crc.mulTo, h]
theorem mul_yes (a b j : Nat) (h : a / 2 ^ (31 - j) % 2 = 1) : Crc.mulTo a b j ^^^ Crc.SN j b = Crc.mulTo a b (j + 1) := by simp [Crc.mulTo, h]

set_option maxHeartbeats 1000000 in
theorem multiply_any (a b : Nat) (ha : a < 4294967296) (hb : b < 4294967296) (w : World) :
    Calls Tryd.prog 29 #[.int .u32 a, .int .u32 b] w fun e w' => e = .returned (.int .u32 ((Crc.mul a b : Nat) : Int)) ∧ w = w' := by
  go_enter Tryd.func29, Tryd.ntmps29
  go_wp2
  go_loop [1, 5, 6] (fun v p t => ∃ j : Nat, j ≤ 32 ∧ v = .int .u32 ((Crc.SN j b : Nat) : Int) ∧ p = .int .u32 ((Crc.mulTo a b j : Nat) : Int) ∧ t = .int .u32 ((2147483648 / 2 ^ j : Nat) : Int)) (fun _ _ t => (intOf t).toNat)
  case atStart => exact ⟨0, Nat.zero_le _, rfl, rfl, rfl⟩
  case round =>
    obtain ⟨j, hj, rfl, rfl, rfl⟩ := hrel
    have hq := Crc.SN_lt j hb
    have hm := Crc.mulTo_lt a b j hb
    by_cases hlt : j < 32
    · obtain ⟨t, ht⟩ : ∃ t, t = 2147483648 / 2 ^ j := ⟨_, rfl⟩
      have ht1 : 1 ≤ t := by rw [ht]; exact top_pos j hlt
      have HN := Lib.hid (top_next j)
      have hx := u32_xor_nat _ _ hm hq
      have hpo := poly_bits _ hq
      have hne : ((t : Int) != 0) = true := by rw [bne_iff_ne]; omega
      rcases and_top a j t ha hlt ht with ⟨b1, e1⟩ | ⟨b1, e1⟩ <;> rcases and_one_u32 _ hq with ⟨b2, e2⟩ | ⟨b2, e2⟩
      all_goals
        first | have HM := Lib.hid (mul_no a b j b1) | have HM := Lib.hid (mul_yes a b j b1)
        first | have HS := Lib.hid (SN_one_even j b _ rfl b2) | have HS := Lib.hid (SN_one_odd j b _ rfl b2)
        rw [← ht] at HN ⊢
        generalize Crc.mulTo a b j ^^^ Crc.SN j b = xm at *
        generalize Crc.SN j b / 2 ^^^ Crc.poly = xs at *
        generalize Crc.SN j b = q at *
        generalize Crc.mulTo a b j = m at *
        clear ht b1 b2
        go_wp2
        go_round
        case rel => exact ⟨j + 1, by omega, by first | (rw [← HS.out]; done) | (rw [← HS.out]; go_num), by rw [← HM.out], by rw [← HN.out]; go_num⟩
        case measure => simp [intOf]; omega
    · have hj32 : j = 32 := by omega
      subst hj32
      have e0 := top_zero
      have HE : Hid (Crc.mulTo a b 32 = Crc.mul a b) := show _ = _ from rfl
      rw [e0]
      clear e0
      generalize Crc.SN 32 b = q at *
      generalize Crc.mulTo a b 32 = m at *
      go_wp2
      go_ret
      exact ⟨by rw [← HE.out]; rfl, rfl⟩

theorem ofInt_i64 (a : Nat) (ha : a < 9223372036854775808) : (BitVec.ofInt 64 (a : Int)).toNat = a := by
  rw [BitVec.ofInt_natCast, BitVec.toNat_ofNat]; exact Nat.mod_eq_of_lt (by omega)
theorem i64_and_nat (a b : Nat) (ha : a < 9223372036854775808) (hb : b < 9223372036854775808) : bits .and .i64 (a : Int) (b : Int) = ((a &&& b : Nat) : Int) := by
  have hx : a &&& b < 2 ^ 63 := Nat.and_lt_two_pow _ (by omega)
  show IntKind.i64.wrap ((BitVec.ofInt 64 (a : Int) &&& BitVec.ofInt 64 (b : Int)).toNat : Int) = _
  rw [BitVec.toNat_and, ofInt_i64 a ha, ofInt_i64 b hb, IntKind.wrap_i64]
  omega
theorem and_one_i64 (b : Nat) (hb : b < 9223372036854775808) : (b % 2 = 0 ∧ bits .and .i64 (b : Int) 1 = 0) ∨ (b % 2 = 1 ∧ bits .and .i64 (b : Int) 1 = 1) := by
  have h := i64_and_nat b 1 hb (by omega)
  rw [Nat.and_one_is_mod, show ((1 : Nat) : Int) = 1 from rfl] at h
  have h2 : b % 2 = 0 ∨ b % 2 = 1 := by omega
  rcases h2 with h2 | h2
  · exact .inl ⟨h2, by rw [h, h2]; rfl⟩
  · exact .inr ⟨h2, by rw [h, h2]; rfl⟩
/-- The rest of the way, for either half of a binary step. -/
theorem half_even (m i x : Nat) (h : m % 2 = 0) : Crc.SN (8 * (m / 2) * 2 ^ (i + 1)) x = Crc.SN (8 * m * 2 ^ i) x := by
  congr 1
  rw [Nat.pow_succ, Nat.mul_comm (2 ^ i) 2, ← Nat.mul_assoc, Nat.mul_assoc 8, show m / 2 * 2 = m by omega]
theorem half_odd (m i x : Nat) (h : m % 2 = 1) : Crc.SN (8 * (m / 2) * 2 ^ (i + 1)) (Crc.SN (8 * 2 ^ i) x) = Crc.SN (8 * m * 2 ^ i) x := by
  rw [← Crc.SN_add]
  congr 1
  rw [Nat.pow_succ, Nat.mul_comm (2 ^ i) 2, ← Nat.mul_assoc, Nat.mul_assoc 8, ← Nat.add_mul]
  congr 1
  omega
theorem pw_next (i : Nat) : Crc.mul (Crc.pw (8 * 2 ^ i)) (Crc.pw (8 * 2 ^ i)) = Crc.pw (8 * 2 ^ (i + 1)) := by
  rw [Crc.pw_pw, Nat.pow_succ, Nat.mul_comm (2 ^ i) 2, Nat.mul_left_comm]

set_option maxHeartbeats 1000000 in
theorem combine_any (a b : Nat) (n : Int) (ha : a < 4294967296) (hb : b < 4294967296) (hn2 : n ≤ 9223372036854775807) (w : World) :
    Calls Tryd.prog 25 #[.int .u32 a, .int .u32 b, .int .i64 n] w fun e w' => e = .returned (.int .u32 ((Crc.combine a b n : Nat) : Int)) ∧ w = w' := by
  obtain ⟨T, hT⟩ : ∃ T, T = Crc.SN (8 * n.toNat) a := ⟨_, rfl⟩
  have HE := Lib.hid (show T ^^^ b = Crc.combine a b n by rw [hT]; rfl)
  have hTl : T < 4294967296 := by rw [hT]; exact Crc.SN_lt _ ha
  have HT := Lib.hid hT
  have HP := Lib.hid Crc.pw8
  clear hT
  go_enter Tryd.func25, Tryd.ntmps25
  go_wp2
  go_loop [0, 2, 7] (fun x z p => ∃ (i xx : Nat) (zz : Int), zz ≤ 9223372036854775807 ∧ xx < 4294967296 ∧ z = .int .i64 zz ∧ x = .int .u32 (xx : Int) ∧ p = .int .u32 ((Crc.pw (8 * 2 ^ i) : Nat) : Int) ∧ Hid (Crc.SN (8 * zz.toNat * 2 ^ i) xx = T)) (fun _ z _ => (intOf z).toNat)
  case atStart => exact ⟨0, a, n, hn2, ha, rfl, rfl, by rw [Nat.pow_zero, Nat.mul_one, HP.out]; rfl, by show _ = _; rw [Nat.pow_zero, Nat.mul_one, HT.out]⟩
  case round =>
    obtain ⟨i, xx, zz, hz, hx, rfl, rfl, rfl, hrel⟩ := hrel
    by_cases hpos : 0 < zz
    · obtain ⟨m, rfl⟩ := Int.eq_ofNat_of_zero_le (show 0 ≤ zz by omega)
      have hpw := Crc.pw_lt (8 * 2 ^ i)
      have HPN := Lib.hid (pw_next i)
      have HMP := Lib.hid (Crc.mul_pw (8 * 2 ^ i) xx hx)
      have hmx : Crc.mul (Crc.pw (8 * 2 ^ i)) xx < 4294967296 := Crc.mulTo_lt _ _ 32 hx
      rcases and_one_i64 m (by omega) with ⟨b2, e2⟩ | ⟨b2, e2⟩
      · have HH := Lib.hid (half_even m i xx b2)
        have HR : Hid (Crc.SN (8 * ((m / 2 : Nat) : Int).toNat * 2 ^ (i + 1)) xx = T) := by
          show _ = _
          rw [Int.toNat_natCast, HH.out]; exact hrel.out
        clear b2
        generalize Crc.pw (8 * 2 ^ i) = p at *
        go_wp2_with (go_at_call 29; refine (multiply_any _ _ hpw hpw _).mono ?_; rintro e w' ⟨rfl, rfl⟩)
        go_round
        case rel => exact ⟨i + 1, xx, ((m / 2 : Nat) : Int), by omega, hx, by go_num, rfl, by rw [HPN.out], HR⟩
        case measure => simp [intOf]; omega
      · have HH := Lib.hid (half_odd m i xx b2)
        have HR : Hid (Crc.SN (8 * ((m / 2 : Nat) : Int).toNat * 2 ^ (i + 1)) (Crc.mul (Crc.pw (8 * 2 ^ i)) xx) = T) := by
          show _ = _
          rw [Int.toNat_natCast, HMP.out, HH.out]; exact hrel.out
        clear b2
        generalize Crc.pw (8 * 2 ^ i) = p at *
        go_wp2_with fail
        refine (multiply_any _ _ hpw hx _).mono ?_
        rintro e w' ⟨rfl, rfl⟩
        go_wp2_with fail
        refine (multiply_any _ _ hpw hpw _).mono ?_
        rintro e w' ⟨rfl, rfl⟩
        go_wp2
        go_round
        case rel => exact ⟨i + 1, _, ((m / 2 : Nat) : Int), by omega, hmx, by go_num, rfl, by rw [HPN.out], HR⟩
        case measure => simp [intOf]; omega
    · have hxT : xx = T := by
        have := hrel.out
        rw [show zz.toNat = 0 by omega, Nat.mul_zero, Nat.zero_mul] at this
        exact this
      subst hxT
      have e9 := u32_xor_nat _ _ hx hb
      generalize xx ^^^ b = r at *
      generalize Crc.pw (8 * 2 ^ i) = p at *
      go_wp2
      go_ret
      exact ⟨by rw [← HE.out]; rfl, rfl⟩

set_option maxHeartbeats 1000000 in
theorem crcJoins_core (A A2 : Option Addr) (n cap m n2 cap2 m2 : Nat) (l l2 : List Nat) (w : World) (hin : In w A m cap l) (hin2 : In w A2 m2 cap2 l2) (hm : m ≤ 200) (hm2 : m2 ≤ 200) (ht : Tab w)
    (hcut : Calls Tryd.prog 13 #[.slice A n cap, .int .i64 200] w fun e w' => e = .returned (.slice A m cap) ∧ w = w')
    (hcut2 : Calls Tryd.prog 13 #[.slice A2 n2 cap2, .int .i64 200] w fun e w' => e = .returned (.slice A2 m2 cap2) ∧ w = w') :
    Calls Tryd.prog 12 #[.slice A n cap, .slice A2 n2 cap2] w fun e w' => e = .returned (.bool true) ∧ Below w.heap.size w w' := by
  have HI := Lib.hid hin
  have HI2 := Lib.hid hin2
  have HT := Lib.hid ht
  have HC := Lib.hid hcut
  have HC2 := Lib.hid hcut2
  have HJ := Lib.hid (Crc.joins l l2 hin2.bytes)
  rw [hin2.len] at HJ
  have hs1 := Crc.sum_lt hin.bytes
  have hs2 := Crc.sum_lt hin2.bytes
  clear hin hin2 ht hcut hcut2
  go_enter Tryd.func12, Tryd.ntmps12
  go_wp2_with fail
  refine HC.out.mono ?_
  rintro e w' ⟨rfl, rfl⟩
  go_wp2_with fail
  refine HC2.out.mono ?_
  rintro e w' ⟨rfl, rfl⟩
  go_wp2_with fail
  refine (awake_any w HT.out).mono ?_
  rintro e w2 ⟨rfl, hb2⟩
  have HB2 := Lib.hid hb2
  have HT2 := Lib.hid (HT.out.below HT.out.size hb2)
  clear hb2
  go_wp2_with fail
  refine (sum_any A m cap _ l w2 HI.out.bytes (HI.out.reads.below HB2.out) (by omega) HT2.out).mono ?_
  rintro e w' ⟨rfl, rfl⟩
  go_wp2_with fail
  refine (sum_any A2 m2 cap2 _ l2 w2 HI2.out.bytes (HI2.out.reads.below HB2.out) (by omega) HT2.out).mono ?_
  rintro e w' ⟨rfl, rfl⟩
  go_wp2_with fail
  have h5 := combine_any _ _ (m2 : Int) hs1 hs2 (by omega) w2
  rw [HJ.out] at h5
  refine h5.mono ?_
  rintro e w' ⟨rfl, rfl⟩
  clear h5
  have hsz := HB2.out.size
  go_wp2_with (first
    | (at_builtin; refine wpList_app _ (.tmp 18) (.tmp 19) rfl rfl w2.heap.size _ 0 [] rfl (own_empty w2) w.heap.size A m cap l rfl ((HI.out.reads.below HB2.out).alloc hsz _) (by omega) (by simp) ?_; intro A3 n3 c3 w3 ho3 _ hn3 hb3)
    | (at_builtin; refine wpList_app _ (.tmp 20) (.tmp 21) rfl rfl w2.heap.size _ _ _ rfl ho3 w.heap.size A2 m2 cap2 l2 rfl (((HI2.out.reads.below HB2.out).alloc hsz _).below (hb3.mono hsz)) (by omega) (Nat.le_trans (by simp) hb3.size) ?_; intro A4 n4 c4 w4 _ hr4 hn4 hb4))
  have HB4 := Lib.hid (((Below.refl w2.heap.size w2).alloc (Nat.le_refl _) _).trans (hb3.trans hb4))
  have HR4 := Lib.hid hr4
  clear hb4 hr4 hb3 ho3
  have HB5 := Lib.hid (HB2.out.trans (HB4.out.mono hsz))
  refine (sum_any A4 n4 c4 _ (l ++ l2) w4 ?_ HR4.out (by omega) (HT.out.below HT.out.size HB5.out)).mono ?_
  · intro b hb
    rcases List.mem_append.1 hb with h | h
    · exact HI.out.bytes b h
    · exact HI2.out.bytes b h
  rintro e w' ⟨rfl, rfl⟩
  go_wp2
  go_ret
  exact ⟨rfl, HB5.out⟩
theorem crcJoins_walk (A : Option Addr) (n cap : Nat) (l : List Nat) (A2 : Option Addr) (n2 cap2 : Nat) (l2 : List Nat) (w : World) (hin : In w A n cap l) (hin2 : In w A2 n2 cap2 l2) (ht : Tab w) :
    Calls Tryd.prog 12 #[.slice A n cap, .slice A2 n2 cap2] w fun e w' => e = .returned (.bool true) ∧ Below w.heap.size w w' :=
  crcJoins_core A A2 n cap _ n2 cap2 _ _ _ w (hin.cut 200) (hin2.cut 200) (by omega) (by omega) ht (cut_any A n cap 200 w hin.le hin.cap (by omega)) (cut_any A2 n2 cap2 200 w hin2.le hin2.cap (by omega))
end Go.Proofs.YtkpfciacfajddaaDoor
