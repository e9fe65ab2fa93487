/- The walks and laws that the claim leans on, part 15. -/
import Derived.Test.YtpihhlbfpbngaaaGreatDoorJan
namespace Go.Proofs.YtpihhlbfpbngaaaGreatDoor.Crc
def poly : Nat := 2197175160
def S (x : Nat) : Nat := x / 2 ^^^ x % 2 * poly
def SN : Nat → Nat → Nat
  | 0, x => x
  | n + 1, x => SN n (S x)
theorem xor_div2 (x y : Nat) : (x ^^^ y) / 2 = x / 2 ^^^ y / 2 := by
  exact Nat.xor_div_two
theorem xor_mod2 (x y : Nat) : (x ^^^ y) % 2 = (x % 2 + y % 2) % 2 := by
  have h := @Nat.xor_mod_two_pow x y 1
  simp only [Nat.pow_one] at h
  rw [h]
  have hx : x % 2 = 0 ∨ x % 2 = 1 := by omega
  have hy : y % 2 = 0 ∨ y % 2 = 1 := by omega
  rcases hx with hx | hx <;> rcases hy with hy | hy <;> rw [hx, hy] <;> rfl
theorem xor4 (a b c d : Nat) : (a ^^^ b) ^^^ (c ^^^ d) = (a ^^^ c) ^^^ (b ^^^ d) := by
  rw [Nat.xor_assoc, Nat.xor_assoc, ← Nat.xor_assoc b c d, Nat.xor_comm b c, Nat.xor_assoc c b d]
theorem bitmul (x y p : Nat) : (x % 2 + y % 2) % 2 * p = x % 2 * p ^^^ y % 2 * p := by
  have hx : x % 2 = 0 ∨ x % 2 = 1 := by omega
  have hy : y % 2 = 0 ∨ y % 2 = 1 := by omega
  rcases hx with hx | hx <;> rcases hy with hy | hy <;> rw [hx, hy] <;> simp
theorem S_xor (x y : Nat) : S (x ^^^ y) = S x ^^^ S y := by
  unfold S
  rw [xor_div2, xor_mod2, bitmul, xor4]
theorem S_double (y : Nat) : S (2 * y) = y := by
  unfold S
  rw [Nat.mul_div_cancel_left _ (by omega), Nat.mul_mod_right]; simp
theorem SN_xor (n x y : Nat) : SN n (x ^^^ y) = SN n x ^^^ SN n y := by
  induction n generalizing x y with
  | zero => rfl
  | succ n ih => simp only [SN, S_xor, ih]
theorem SN_add (n m x : Nat) : SN (n + m) x = SN n (SN m x) := by
  induction m generalizing x with
  | zero => rfl
  | succ m ih => rw [← Nat.add_assoc]; simp only [SN, ih]
theorem SN_shift (n y : Nat) : SN n (2 ^ n * y) = y := by
  induction n generalizing y with
  | zero => simp [SN]
  | succ n ih =>
    rw [show 2 ^ (n + 1) * y = 2 * (2 ^ n * y) by rw [Nat.pow_succ, Nat.mul_comm (2 ^ n) 2, Nat.mul_assoc]]
    simp only [SN, S_double, ih]
theorem split_xor (n x : Nat) : x = 2 ^ n * (x / 2 ^ n) ^^^ x % 2 ^ n := by
  apply Nat.eq_of_testBit_eq
  intro i
  rw [Nat.testBit_xor, Nat.testBit_two_pow_mul, Nat.testBit_mod_two_pow]
  by_cases h : n ≤ i
  · have h2 : ¬ i < n := by omega
    simp only [h, h2, decide_true, decide_false, Bool.true_and, Bool.false_and, Bool.xor_false]
    rw [Nat.testBit_div_two_pow]; congr 1; omega
  · have h2 : i < n := by omega
    simp [h, h2]
theorem nib_eq : ∀ i, i < 16 → nib.getD i 0 = SN 4 i := by decide
theorem half_eq (x : Nat) : half x = SN 4 x := by
  have h := split_xor 4 x
  rw [show (2 : Nat) ^ 4 = 16 from rfl] at h
  have hm : x % 16 < 16 := Nat.mod_lt _ (by omega)
  conv => rhs; rw [h]
  rw [SN_xor, ← nib_eq _ hm]
  have := SN_shift 4 (x / 16)
  rw [show (2 : Nat) ^ 4 = 16 from rfl] at this
  rw [this]; rfl
theorem step_eq (r b : Nat) : step r b = SN 8 (r ^^^ b) := by
  unfold step
  rw [half_eq, half_eq, ← SN_add]
def rbit (r b k : Nat) : Nat := r / 2 ^^^ (r % 2 + b / 2 ^ k % 2) % 2 * poly
def rbits (r b : Nat) : Nat → Nat
  | 0 => r
  | k + 1 => rbit (rbits r b k) b k
theorem S_SN (n x : Nat) : S (SN n x) = SN (n + 1) x := by rw [Nat.add_comm, SN_add]; rfl
theorem rbits_eq (r b k : Nat) : rbits r b k ^^^ b / 2 ^ k = SN k (r ^^^ b) := by
  induction k with
  | zero => simp [rbits, SN]
  | succ k ih =>
    rw [← S_SN, ← ih]
    simp only [rbits, rbit, S]
    rw [xor_div2, xor_mod2, Nat.div_div_eq_div_mul, ← Nat.pow_succ]
    rw [Nat.xor_assoc, Nat.xor_assoc, Nat.xor_comm (_ * poly)]
theorem rbits_byte (r x k : Nat) : rbits r x (k + 8) = step (rbits r x k) (x / 2 ^ k % 256) := by
  have h1 := rbits_eq r x (k + 8)
  have h0 := rbits_eq r x k
  rw [show k + 8 = 8 + k by omega, SN_add, ← h0] at h1
  have hs := split_xor 8 (x / 2 ^ k)
  rw [show (2 : Nat) ^ 8 = 256 from rfl] at hs
  have e : rbits r x k ^^^ x / 2 ^ k = 2 ^ 8 * (x / 2 ^ k / 256) ^^^ (rbits r x k ^^^ x / 2 ^ k % 256) := by
    conv => lhs; rw [hs]
    rw [show (2 : Nat) ^ 8 = 256 from rfl, ← Nat.xor_assoc, ← Nat.xor_assoc, Nat.xor_comm (rbits r x k)]
  rw [e, SN_xor, SN_shift, ← step_eq] at h1
  have e2 : x / 2 ^ (8 + k) = x / 2 ^ k / 256 := by rw [Nat.div_div_eq_div_mul, Nat.pow_add, Nat.mul_comm]
  rw [e2] at h1
  have h3 := congrArg (fun t => t ^^^ (x / 2 ^ k / 256)) h1
  simp only [Nat.xor_assoc, Nat.xor_self, Nat.xor_zero] at h3
  rw [Nat.xor_comm (x / 2 ^ k / 256), Nat.xor_assoc, Nat.xor_self, Nat.xor_zero, show 8 + k = k + 8 by omega] at h3
  exact h3
theorem rbits_word (r x j : Nat) : rbits r x (8 * j) = reg r (wb x j) := by
  induction j with
  | zero => rfl
  | succ j ih => rw [Nat.mul_succ, rbits_byte, ih, wb_succ, reg_snoc, Nat.pow_mul, show (2 : Nat) ^ 8 = 256 from rfl]
end Go.Proofs.YtpihhlbfpbngaaaGreatDoor.Crc
namespace Go.Proofs.YtpihhlbfpbngaaaGreatDoor
open Go.RowKit
set_option maxRecDepth 100000 in
set_option maxHeartbeats 4000000 in
theorem look_free {a : DA} {L T : Nat} {w : World} {S : Fp} {cur : Nat → Nat} {F : Nat} (h : Dev a L T w S cur F) (ht : Tab w) (c : Nat) (hc : c + 32 ≤ L) (hv : cur (8 * c) = freeW 1) :
    Calls Tryz.prog 251 #[memV a, .int .i64 (c : Int)] w fun e w' => e = .returned (.tuple #[.agg #[.int .i64 (-1), .int .i64 (-1), .int .u16 1], .int .i64 0]) ∧ Below w.heap.size w w' := by
  have HLd := Lib.hid (load_at h (64 * c) (freeW 1) (by omega) (by omega) (by rw [show 64 * c / 8 = 8 * c by omega]; exact hv))
  have HD := Lib.hid h
  have HH := Lib.hid (fun (W : World) (hW : Below w.heap.size w W) => header_free W (ht.below hW))
  have hm := methLoad (some ⟨a.th 0, 0, none⟩)
  have hna := aheadLoad ⟨a.th 0, 0, none⟩
  have hmE := methErr (some ⟨a.th 0, 0, none⟩)
  have hmS := methSize (some ⟨a.th 0, 0, none⟩)
  have hq := eqMem (some ⟨a.th 0, 0, none⟩)
  have HB0 : Hid (Below w.heap.size w (w.alloc (.cells #[.int .i64 0, .int .i64 0, .int .u16 0] 260))) := (Below.refl _ _).alloc (Nat.le_refl _) _
  obtain ⟨ls, exe, per, cs, lsC, hdc, hnt⟩ := h.below HB0.out
  have hL := hdc.hL
  obtain ⟨f0, f2, _, _, f4⟩ := hdc.facts (j := 0) (by omega)
  have HBk := Lib.hid (Blk.new w 260 #[.int .i64 0, .int .i64 0, .int .u16 0])
  clear hdc hnt h ht
  unfold memV at *
  have e1 : decide ((c : Int) < 0) = false := decide_eq_false (by omega)
  have u1 : IntKind.u64.wrap ((L : Int) * 64) = (L : Int) * 64 := by rw [IntKind.wrap_u64]; omega
  have u3 : IntKind.u64.wrap (c : Int) = (c : Int) := by rw [IntKind.wrap_u64]; omega
  have u4 : IntKind.u64.wrap ((L : Int) - 32) = (L : Int) - 32 := by rw [IntKind.wrap_u64]; omega
  have u5 : IntKind.u64.wrap ((c : Int) * 64) = ((64 * c : Nat) : Int) := by rw [IntKind.wrap_u64]; omega
  have d1 : ((L : Int) * 64).tdiv 64 = (L : Int) := by rw [Int.mul_tdiv_cancel _ (by decide)]
  have e2 : decide ((L : Int) < 32) = false := decide_eq_false (by omega)
  have e3 : decide ((L : Int) - 32 < (c : Int)) = false := decide_eq_false (by omega)
  generalize 64 * c = z at *
  go_enter Tryz.func251, Tryz.ntmps251
  go_wp2
  generalize w.alloc (.cells #[.int .i64 0, .int .i64 0, .int .u16 0] 260) = W at *
  have HB1 : Hid (Below W.heap.size W W.drew) := (Below.refl _ _).drew
  have HB2 : Hid (Below w.heap.size w W.drew) := HB0.out.drew
  go_cut [8] from 38 to 44 (fun v wx => v = .int .u64 (freeW 1 : Int) ∧ Hid (Below W.heap.size W wx))
  case first =>
    go_region_with (first | (go_at_call 62; refine (HLd.out _ HB2.out).mono ?_; rintro e w1 ⟨rfl, rfl⟩) | go_in)
    all_goals (go_wp2_with fail; go_meet; exact ⟨rfl, HB1⟩)
  case rest =>
    obtain ⟨rfl, HW⟩ := hcut
    have HWw := Lib.hid (HB0.out.trans (HW.out.mono HB0.out.size))
    obtain ⟨ls1, exe1, per1, cs1, lsC1, hdc1, hnt1⟩ := HD.out.below HWw.out
    obtain ⟨k0, _, _, _, k4⟩ := hdc1.facts (j := 0) (by omega)
    have HHw := Lib.hid (HH.out wc HWw.out)
    have HBc := Lib.hid (HBk.out.below HW.out HBk.out.lt)
    clear hdc1 hnt1
    go_wp2_with (first
      | (go_at_call 305; refine HHw.out.mono ?_; rintro e w1 ⟨rfl, hb1⟩; have HB3 := Lib.hid (HWw.out.trans (hb1.mono HWw.out.size)); have hk := HBc.out.below hb1 HBc.out.lt; have hlt := hk.lt; have c0 : w1.cell? ⟨w.heap.size, 0, none⟩ = some (.int .i64 0) := hk.cell 0; have c1 : w1.cell? ⟨w.heap.size, 1, none⟩ = some (.int .i64 0) := hk.cell 1; have c2 : w1.cell? ⟨w.heap.size, 2, none⟩ = some (.int .u16 0) := hk.cell 2; have z0 : w1.frozen? ⟨w.heap.size, 0, none⟩ = false := hk.frozen 0; have z1 : w1.frozen? ⟨w.heap.size, 1, none⟩ = false := hk.frozen 1; have z2 : w1.frozen? ⟨w.heap.size, 2, none⟩ = false := hk.frozen 2; clear hb1 hk)
      | go_in)
    refine bodyPost_ret (v := .tuple #[.agg #[.int .i64 (-1), .int .i64 (-1), .int .u16 1], .int .i64 0]) (by simp [results, Tryz.results251, go_sem, c0, c1, c2, hlt]) rfl ⟨rfl, ?_⟩
    have h1 := ((HB3.out.setCell (p := ⟨w.heap.size, 0, none⟩) (Nat.le_refl _) (.int .i64 (-1))).setCell (p := ⟨w.heap.size, 1, none⟩) (Nat.le_refl _) (.int .i64 (-1))).setCell (p := ⟨w.heap.size, 2, none⟩) (Nat.le_refl _) (.int .u16 1)
    exact h1.alloc h1.size _
end Go.Proofs.YtpihhlbfpbngaaaGreatDoor
namespace Go.Proofs.YtpihhlbfpbngaaaGreatDoor
open Go.RowKit
section
variable {a : DA} {L T : Nat} {w : World} {S : Fp} {cur : Nat → Nat} {F : Nat}
theorem look_undiv (h : Dev a L T w S cur F) (ht : Tab w) (c g : Nat) (hc : c + 32 ≤ L) (hg0 : 0 < g) (hg : g < 65536) (hv : cur (8 * c) = freeW g) :
    Calls Tryz.prog 251 #[memV a, .int .i64 (c : Int)] w fun e w' => e = .returned (.tuple #[.agg #[.int .i64 (-1), .int .i64 (-1), .int .u16 (g : Int)], .int .i64 0]) ∧ Below w.heap.size w w' :=
  look_core h c hc (freeW g) (-1) (-1) (g : Int) hv (fun W hW => header_undiv g hg0 hg W (ht.below hW))
theorem look_cls (h : Dev a L T w S cur F) (ht : Tab w) (hp : Pay w) (c cl g : Nat) (hc : c + 32 ≤ L) (hcl : cl < 5) (hg0 : 0 < g) (hg : g < 65536) (hv : cur (8 * c) = hdrW cl g) :
    Calls Tryz.prog 251 #[memV a, .int .i64 (c : Int)] w fun e w' => e = .returned (.tuple #[.agg #[.int .i64 (cl : Int), .int .i64 0, .int .u16 (g : Int)], .int .i64 0]) ∧ Below w.heap.size w w' :=
  look_core h c hc (hdrW cl g) (cl : Int) 0 (g : Int) hv (fun W hW => header_cls cl g hcl hg0 hg W (ht.below hW) (hp.below hW))
end
def chNone : Value := .agg #[.nilIface, .int .i64 0, .int .i64 0, .int .i64 0, .int .u16 0]
section
set_option maxRecDepth 100000
set_option maxHeartbeats 2000000
variable {a : DA} {L T : Nat} {w : World} {S : Fp} {cur : Nat → Nat} {F : Nat}
theorem chOpen_undiv (h : Dev a L T w S cur F) (ht : Tab w) (c g : Nat) (hc : c + 32 ≤ L) (hg0 : 0 < g) (hg : g < 65536) (hv : cur (8 * c) = freeW g) :
    Calls Tryz.prog 171 #[memV a, .int .i64 (c : Int)] w fun e w' => e = .returned (.tuple #[chNone, .int .i64 8]) ∧ Below w.heap.size w w' := by
  have HB0 : Hid (Below w.heap.size w (w.alloc (.cells #[.nilIface, .int .i64 0, .int .i64 0, .int .i64 0, .int .u16 0] 262))) := (Below.refl _ _).alloc (Nat.le_refl _) _
  have HL := Lib.hid (look_undiv (h.below HB0.out) (ht.below HB0.out) c g hc hg0 hg hv)
  clear h ht hv
  unfold chNone
  unfold memV at *
  have HK0 := Lib.hid (Blk.new w 262 #[.nilIface, .int .i64 0, .int .i64 0, .int .i64 0, .int .u16 0])
  go_enter Tryz.func171, Tryz.ntmps171
  go_wp2_with fail
  refine HL.out.mono ?_
  rintro e w1 ⟨rfl, hb1⟩
  have HB1 := Lib.hid (HB0.out.trans (hb1.mono HB0.out.size))
  have hk1 := HK0.out.below hb1 HK0.out.lt
  have hlt := hk1.lt
  have c0 : w1.cell? ⟨w.heap.size, 0, none⟩ = some (.nilIface) := hk1.cell 0
  have z0 : w1.frozen? ⟨w.heap.size, 0, none⟩ = false := hk1.frozen 0
  have c1 : w1.cell? ⟨w.heap.size, 1, none⟩ = some (.int .i64 0) := hk1.cell 1
  have z1 : w1.frozen? ⟨w.heap.size, 1, none⟩ = false := hk1.frozen 1
  have c2 : w1.cell? ⟨w.heap.size, 2, none⟩ = some (.int .i64 0) := hk1.cell 2
  have z2 : w1.frozen? ⟨w.heap.size, 2, none⟩ = false := hk1.frozen 2
  have c3 : w1.cell? ⟨w.heap.size, 3, none⟩ = some (.int .i64 0) := hk1.cell 3
  have z3 : w1.frozen? ⟨w.heap.size, 3, none⟩ = false := hk1.frozen 3
  have c4 : w1.cell? ⟨w.heap.size, 4, none⟩ = some (.int .u16 0) := hk1.cell 4
  have z4 : w1.frozen? ⟨w.heap.size, 4, none⟩ = false := hk1.frozen 4
  have hlt1 : w.heap.size < w1.heap.size := hlt
  clear hb1 hk1 HL
  go_wp2
  have n01 : (⟨w.heap.size, 0, none⟩ : Addr) ≠ ⟨w.heap.size, 1, none⟩ := by simp
  have n02 : (⟨w.heap.size, 0, none⟩ : Addr) ≠ ⟨w.heap.size, 2, none⟩ := by simp
  have n03 : (⟨w.heap.size, 0, none⟩ : Addr) ≠ ⟨w.heap.size, 3, none⟩ := by simp
  have n04 : (⟨w.heap.size, 0, none⟩ : Addr) ≠ ⟨w.heap.size, 4, none⟩ := by simp
  have n12 : (⟨w.heap.size, 1, none⟩ : Addr) ≠ ⟨w.heap.size, 2, none⟩ := by simp
  have n13 : (⟨w.heap.size, 1, none⟩ : Addr) ≠ ⟨w.heap.size, 3, none⟩ := by simp
  have n14 : (⟨w.heap.size, 1, none⟩ : Addr) ≠ ⟨w.heap.size, 4, none⟩ := by simp
  have n23 : (⟨w.heap.size, 2, none⟩ : Addr) ≠ ⟨w.heap.size, 3, none⟩ := by simp
  have n24 : (⟨w.heap.size, 2, none⟩ : Addr) ≠ ⟨w.heap.size, 4, none⟩ := by simp
  have n34 : (⟨w.heap.size, 3, none⟩ : Addr) ≠ ⟨w.heap.size, 4, none⟩ := by simp
  refine bodyPost_ret (v := .tuple #[.agg #[.nilIface, .int .i64 0, .int .i64 0, .int .i64 0, .int .u16 0], .int .i64 8]) (by simp [results, Tryz.results171, go_sem, c0, c1, c2, c3, c4, hlt]) rfl ⟨rfl, ?_⟩
  have h1 := (((((HB1.out.setCell (p := ⟨w.heap.size, 0, none⟩) (Nat.le_refl _) (.nilIface)).setCell (p := ⟨w.heap.size, 1, none⟩) (Nat.le_refl _) (.int .i64 0)).setCell (p := ⟨w.heap.size, 2, none⟩) (Nat.le_refl _) (.int .i64 0)).setCell (p := ⟨w.heap.size, 3, none⟩) (Nat.le_refl _) (.int .i64 0)).setCell (p := ⟨w.heap.size, 4, none⟩) (Nat.le_refl _) (.int .u16 0))
  exact h1.alloc h1.size _
theorem chOpen_cls (h : Dev a L T w S cur F) (ht : Tab w) (hp : Pay w) (c cl g : Nat) (hc : c + 32 ≤ L) (hcl : cl < 5) (hg0 : 0 < g) (hg : g < 65536) (hv : cur (8 * c) = hdrW cl g) :
    Calls Tryz.prog 171 #[memV a, .int .i64 (c : Int)] w fun e w' => e = .returned (.tuple #[chV a c cl 0 g, .int .i64 0]) ∧ Below w.heap.size w w' := by
  have HB0 : Hid (Below w.heap.size w (w.alloc (.cells #[.nilIface, .int .i64 0, .int .i64 0, .int .i64 0, .int .u16 0] 262))) := (Below.refl _ _).alloc (Nat.le_refl _) _
  have HL := Lib.hid (look_cls (h.below HB0.out) (ht.below HB0.out) (hp.below HB0.out) c cl g hc hcl hg0 hg hv)
  clear h ht hv hp
  unfold chV
  have d0 : decide ((cl : Int) < 0) = false := decide_eq_false (by omega)
  unfold memV at *
  have HK0 := Lib.hid (Blk.new w 262 #[.nilIface, .int .i64 0, .int .i64 0, .int .i64 0, .int .u16 0])
  go_enter Tryz.func171, Tryz.ntmps171
  go_wp2_with fail
  refine HL.out.mono ?_
  rintro e w1 ⟨rfl, hb1⟩
  have HB1 := Lib.hid (HB0.out.trans (hb1.mono HB0.out.size))
  have hk1 := HK0.out.below hb1 HK0.out.lt
  have hlt := hk1.lt
  have c0 : w1.cell? ⟨w.heap.size, 0, none⟩ = some (.nilIface) := hk1.cell 0
  have z0 : w1.frozen? ⟨w.heap.size, 0, none⟩ = false := hk1.frozen 0
  have c1 : w1.cell? ⟨w.heap.size, 1, none⟩ = some (.int .i64 0) := hk1.cell 1
  have z1 : w1.frozen? ⟨w.heap.size, 1, none⟩ = false := hk1.frozen 1
  have c2 : w1.cell? ⟨w.heap.size, 2, none⟩ = some (.int .i64 0) := hk1.cell 2
  have z2 : w1.frozen? ⟨w.heap.size, 2, none⟩ = false := hk1.frozen 2
  have c3 : w1.cell? ⟨w.heap.size, 3, none⟩ = some (.int .i64 0) := hk1.cell 3
  have z3 : w1.frozen? ⟨w.heap.size, 3, none⟩ = false := hk1.frozen 3
  have c4 : w1.cell? ⟨w.heap.size, 4, none⟩ = some (.int .u16 0) := hk1.cell 4
  have z4 : w1.frozen? ⟨w.heap.size, 4, none⟩ = false := hk1.frozen 4
  have hlt1 : w.heap.size < w1.heap.size := hlt
  clear hb1 hk1 HL
  go_wp2
  have n01 : (⟨w.heap.size, 0, none⟩ : Addr) ≠ ⟨w.heap.size, 1, none⟩ := by simp
  have n02 : (⟨w.heap.size, 0, none⟩ : Addr) ≠ ⟨w.heap.size, 2, none⟩ := by simp
  have n03 : (⟨w.heap.size, 0, none⟩ : Addr) ≠ ⟨w.heap.size, 3, none⟩ := by simp
  have n04 : (⟨w.heap.size, 0, none⟩ : Addr) ≠ ⟨w.heap.size, 4, none⟩ := by simp
  have n12 : (⟨w.heap.size, 1, none⟩ : Addr) ≠ ⟨w.heap.size, 2, none⟩ := by simp
  have n13 : (⟨w.heap.size, 1, none⟩ : Addr) ≠ ⟨w.heap.size, 3, none⟩ := by simp
  have n14 : (⟨w.heap.size, 1, none⟩ : Addr) ≠ ⟨w.heap.size, 4, none⟩ := by simp
  have n23 : (⟨w.heap.size, 2, none⟩ : Addr) ≠ ⟨w.heap.size, 3, none⟩ := by simp
  have n24 : (⟨w.heap.size, 2, none⟩ : Addr) ≠ ⟨w.heap.size, 4, none⟩ := by simp
  have n34 : (⟨w.heap.size, 3, none⟩ : Addr) ≠ ⟨w.heap.size, 4, none⟩ := by simp
  refine bodyPost_ret (v := .tuple #[.agg #[.iface 35 (.pointer (some ⟨a.th 0, 0, none⟩)), .int .i64 (c : Int), .int .i64 (cl : Int), .int .i64 0, .int .u16 (g : Int)], .int .i64 0]) (by simp [results, Tryz.results171, go_sem, c0, c1, c2, c3, c4, hlt]) rfl ⟨rfl, ?_⟩
  have h1 := (((((HB1.out.setCell (p := ⟨w.heap.size, 0, none⟩) (Nat.le_refl _) (.iface 35 (.pointer (some ⟨a.th 0, 0, none⟩)))).setCell (p := ⟨w.heap.size, 1, none⟩) (Nat.le_refl _) (.int .i64 (c : Int))).setCell (p := ⟨w.heap.size, 2, none⟩) (Nat.le_refl _) (.int .i64 (cl : Int))).setCell (p := ⟨w.heap.size, 3, none⟩) (Nat.le_refl _) (.int .i64 0)).setCell (p := ⟨w.heap.size, 4, none⟩) (Nat.le_refl _) (.int .u16 (g : Int)))
  exact h1.alloc h1.size _
end
end Go.Proofs.YtpihhlbfpbngaaaGreatDoor
