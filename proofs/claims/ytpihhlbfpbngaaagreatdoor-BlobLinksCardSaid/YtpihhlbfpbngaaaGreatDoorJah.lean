/- The walks and laws that the claim leans on, part 8. -/
import Derived.Test.YtpihhlbfpbngaaaGreatDoorJag
import Derived.Lib.BufferMore
namespace Go.Proofs.YtpihhlbfpbngaaaGreatDoor
open Go.RowKit
def sealB (x : Nat) : List Nat := [x % 256, x / 256 % 256, x / 65536 % 256, x / 16777216 % 256]
def sealW (x : Nat) : Nat := Crc.sum (sealB x) * 4294967296 + x
theorem sealB_lt (x : Nat) : ∀ b ∈ sealB x, b < 256 := by
  intro b hb
  simp only [sealB, List.mem_cons, List.not_mem_nil, or_false] at hb
  omega
theorem sealW_lt (x : Nat) (hx : x < 4294967296) : sealW x < 18446744073709551616 := by
  have := Crc.sum_lt (sealB_lt x)
  unfold sealW
  omega
theorem seal_or (s x : Nat) (hs : s < 4294967296) (hx : x < 4294967296) : bits .or .u64 ((s : Int) * 4294967296) (x : Int) = ((s * 4294967296 + x : Nat) : Int) := by
  rw [show (s : Int) * 4294967296 = ((s * 4294967296 : Nat) : Int) by omega]
  rw [u64_or_nat _ _ (by omega) (by omega)]
  congr 1
  have := Nat.two_pow_add_eq_or_of_lt (i := 32) (b := x) hx s
  rw [Nat.mul_comm s, show (4294967296 : Nat) = 2 ^ 32 from rfl, ← this]
set_option maxRecDepth 100000 in
set_option maxHeartbeats 4000000 in
theorem seal_any (x : Nat) (hx : x < 4294967296) (w : World) (ht : Tab w) :
    Calls Tryz.prog 313 #[.int .u32 (x : Int)] w fun e w' => e = .returned (.int .u64 (sealW x : Int)) ∧ Below w.heap.size w w' := by
  have HS := Lib.hid (fun (W : World) (hW : Below w.heap.size w W) (B : Nat) h => sum_any (some ⟨w.heap.size, 0, none⟩) 4 4 B (sealB x) W (sealB_lt x) h (by omega) (ht.below hW))
  have hsl := Crc.sum_lt (sealB_lt x)
  have HB : Hid (sealB x = [x % 256, x / 256 % 256, x / 65536 % 256, x / 16777216 % 256]) := rfl
  have e0 : IntKind.u8.wrap (x : Int) = ((x % 256 : Nat) : Int) := by rw [IntKind.wrap_u8]; omega
  have e1 : IntKind.u8.wrap ((x : Int) / 256) = ((x / 256 % 256 : Nat) : Int) := by rw [IntKind.wrap_u8]; omega
  have e2 : IntKind.u8.wrap ((x : Int) / 65536) = ((x / 65536 % 256 : Nat) : Int) := by rw [IntKind.wrap_u8]; omega
  have e3 : IntKind.u8.wrap ((x : Int) / 16777216) = ((x / 16777216 % 256 : Nat) : Int) := by rw [IntKind.wrap_u8]; omega
  have e4 : bits .or .u64 ((Crc.sum (sealB x) : Int) * 4294967296) (x : Int) = (sealW x : Int) := seal_or _ x hsl hx
  generalize sealW x = z at *
  generalize Crc.sum (sealB x) = s at *
  generalize sealB x = l at *
  generalize x % 256 = b0 at *
  generalize x / 256 % 256 = b1 at *
  generalize x / 65536 % 256 = b2 at *
  generalize x / 16777216 % 256 = b3 at *
  have u1 : IntKind.u64.wrap (s : Int) = (s : Int) := by rw [IntKind.wrap_u64]; omega
  have u2 : IntKind.u64.wrap (x : Int) = (x : Int) := by rw [IntKind.wrap_u64]; omega
  have u3 : IntKind.u64.wrap ((s : Int) * 4294967296) = (s : Int) * 4294967296 := by rw [IntKind.wrap_u64]; omega
  clear ht
  go_enter Tryz.func313, Tryz.ntmps313
  go_wp2_with (go_at_call 332; refine (HS.out _ ((Below.refl _ _).alloc (Nat.le_refl _) _) (w.heap.size + 1) (by rw [HB.out]; exact row_reads_at w _ rfl _ 4 1 5 _ rfl rfl)).mono ?_; rintro e w1 ⟨rfl, rfl⟩)
  go_ret
  exact ⟨rfl, (Below.refl _ _).alloc (Nat.le_refl _) _⟩
end Go.Proofs.YtpihhlbfpbngaaaGreatDoor
namespace Go.Proofs.YtpihhlbfpbngaaaGreatDoor
open Go.RowKit
def ulogCells (a : DA) (s n : Nat) : Array Value := #[memV a, .int .u64 ((64 * s : Nat) : Int), .int .i64 (n : Int)]
set_option maxRecDepth 100000 in
set_option maxHeartbeats 4000000 in
theorem undoOpen_any {a : DA} {L T : Nat} {w : World} {S : Fp} {cur : Nat → Nat} {F : Nat} (h : Dev a L T w S cur F) (s n : Nat) (hn : 2 ≤ n) (hs : s + n ≤ L) :
    Calls Tryz.prog 137 #[memV a, .int .i64 (s : Int), .int .i64 (n : Int)] w fun e w' => e = .returned (.tuple #[.pointer (some ⟨w.heap.size, 0, none⟩), .int .i64 0]) ∧ w' = w.alloc (.cells (ulogCells a s n) 296) := by
  obtain ⟨ls, exe, per, cs, lsC, hdc, hnt⟩ := h
  have hL := hdc.hL
  obtain ⟨f0, f2, _, _, _⟩ := hdc.facts (j := 0) (by omega)
  clear hdc hnt
  have hq := eqMem (some ⟨a.th 0, 0, none⟩)
  have hmS := methSize (some ⟨a.th 0, 0, none⟩)
  unfold memV ulogCells memV
  have e1 : decide ((s : Int) < 0) = false := decide_eq_false (by omega)
  have e2 : decide ((n : Int) < 2) = false := decide_eq_false (by omega)
  have u1 : IntKind.u64.wrap ((L : Int) * 64) = (L : Int) * 64 := by rw [IntKind.wrap_u64]; omega
  have u2 : IntKind.u64.wrap (n : Int) = (n : Int) := by rw [IntKind.wrap_u64]; omega
  have u3 : IntKind.u64.wrap (s : Int) = (s : Int) := by rw [IntKind.wrap_u64]; omega
  have u4 : IntKind.u64.wrap ((L : Int) - (n : Int)) = (L : Int) - (n : Int) := by rw [IntKind.wrap_u64]; omega
  have u5 : IntKind.u64.wrap ((s : Int) * 64) = ((64 * s : Nat) : Int) := by rw [IntKind.wrap_u64]; omega
  have d1 : ((L : Int) * 64).tdiv 64 = (L : Int) := by rw [Int.mul_tdiv_cancel _ (by decide)]
  have e3 : decide ((L : Int) < (n : Int)) = false := decide_eq_false (by omega)
  have e4 : decide ((L : Int) - (n : Int) < (s : Int)) = false := decide_eq_false (by omega)
  go_enter Tryz.func137, Tryz.ntmps137
  go_wp2
  go_ret2
  exact ⟨rfl, rfl⟩
set_option maxRecDepth 100000 in
set_option maxHeartbeats 4000000 in
theorem redoOpen_any {a : DA} {L T : Nat} {w : World} {S : Fp} {cur : Nat → Nat} {F : Nat} (h : Dev a L T w S cur F) (s n : Nat) (hn : 26 ≤ n) (hs : s + n ≤ L) :
    Calls Tryz.prog 135 #[memV a, .int .i64 (s : Int), .int .i64 (n : Int)] w fun e w' => e = .returned (.tuple #[.pointer (some ⟨w.heap.size, 0, none⟩), .int .i64 0]) ∧ w' = w.alloc (.cells (logCells a s n) 247) := by
  have HH := Lib.hid (handle_any h s n hn hs)
  clear h
  unfold memV at *
  go_enter Tryz.func135, Tryz.ntmps135
  go_wp2_with (go_at_call 132; refine HH.out.mono ?_; rintro e w1 ⟨rfl, rfl⟩)
  go_ret2
  exact ⟨rfl, rfl⟩
end Go.Proofs.YtpihhlbfpbngaaaGreatDoor
namespace Go.Proofs.YtpihhlbfpbngaaaGreatDoor
open Go.RowKit
theorem aheadLoad (p : Addr) (w : World) : (nilAhead 519 35 (.pointer (some p)) "Load").run Tryz.prog w = .ok (some false) w := by kernel_rfl
theorem load_at {a : DA} {L T : Nat} {w : World} {S : Fp} {cur : Nat → Nat} {F : Nat} (h : Dev a L T w S cur F) (off v : Nat) (h8 : off % 8 = 0) (hlt : off < 64 * L) (hv : cur (off / 8) = v) (W : World) (hW : Below w.heap.size w W) :
    Calls Tryz.prog 62 #[.pointer (some ⟨a.th 0, 0, none⟩), .int .u64 (off : Int)] W fun e w' => e = .returned (.int .u64 (v : Int)) ∧ W = w' := by
  obtain ⟨s, exe, per, cs, ls, hdc, _⟩ := h.below hW
  subst hv
  exact load_any hdc (by omega) off h8 hlt
set_option maxRecDepth 100000 in
set_option maxHeartbeats 4000000 in
theorem look_idle {a : DA} {L T : Nat} {w : World} {S : Fp} {cur : Nat → Nat} {F : Nat} (h : Dev a L T w S cur F) (g s n : Nat) (hB : Blk w g 247 (logCells a s n)) (hs : s < L) (h0 : cur (8 * s) = 0) :
    Calls Tryz.prog 230 #[.pointer (some ⟨g, 0, none⟩)] w fun e w' => e = .returned (.tuple #[.int .u8 1, .slice none 0 0]) ∧ Below w.heap.size w w' := by
  have HLd := Lib.hid (load_at h (64 * s) 0 (by omega) (by omega) (by rw [show 64 * s / 8 = 8 * s by omega]; exact h0))
  have hna := aheadLoad ⟨a.th 0, 0, none⟩
  have hm := methLoad (some ⟨a.th 0, 0, none⟩)
  have HBB := Lib.hid hB
  have f0 : w.cell? ⟨g, 0, none⟩ = some (memV a) := hB.cell 0
  have f1 : w.cell? ⟨g, 1, none⟩ = some (.int .u64 ((64 * s : Nat) : Int)) := hB.cell 1
  have HB0 : Hid (Below w.heap.size w w.drew) := (Below.refl _ _).drew
  unfold memV at *
  generalize 64 * s = z at *
  clear hB h
  go_enter Tryz.func230, Tryz.ntmps230
  go_wp2_with fail
  go_cut [5] from 16 to 24 (fun v wx => v = .int .u64 0 ∧ Hid (Below w.heap.size w wx))
  case first =>
    go_region_with (go_at_call 62; refine (HLd.out _ HB0.out).mono ?_; rintro e w1 ⟨rfl, rfl⟩)
    all_goals (go_wp2_with fail; go_meet; exact ⟨rfl, HB0⟩)
  case rest =>
    obtain ⟨rfl, HW⟩ := hcut
    go_wp2
    go_ret2
    exact ⟨rfl, HW.out⟩
end Go.Proofs.YtpihhlbfpbngaaaGreatDoor
namespace Go.Proofs.YtpihhlbfpbngaaaGreatDoor
open Go.RowKit
def payW : Nat → Nat
  | 0 => 3
  | 1 => 7
  | 2 => 15
  | 3 => 31
  | _ => 60
def perC (c : Nat) : Nat := 248 / (payW c + 1)
def offB (c i : Nat) : Nat := 8 + i * (payW c + 1)
def findC (c x : Nat) : Option Nat := if x ≤ 8 ∨ 256 ≤ x then none else if (x - 9) % (payW c + 1) ≠ 0 ∨ perC c ≤ (x - 9) / (payW c + 1) then none else some ((x - 9) / (payW c + 1))
theorem pay_le (c : Nat) : 3 ≤ payW c ∧ payW c ≤ 60 := by
  unfold payW
  split <;> omega
theorem per_le (c : Nat) : 4 ≤ perC c ∧ perC c ≤ 62 := by
  unfold perC payW
  split <;> omega
theorem off_lt {c i : Nat} (h : i < perC c) : offB c i + payW c + 1 ≤ 256 := by
  unfold perC payW at h
  unfold offB payW
  split at h <;> omega
theorem off_inj {c i j : Nat} (hij : i < j) : offB c i + payW c + 1 ≤ offB c j := by
  unfold offB
  have h : (i + 1) * (payW c + 1) ≤ j * (payW c + 1) := Nat.mul_le_mul_right _ hij
  rw [Nat.succ_mul] at h
  omega
theorem findC_off {c i : Nat} (h : i < perC c) : findC c (offB c i + 1) = some i := by
  have h1 := off_lt h
  have h2 := pay_le c
  unfold findC
  rw [if_neg (by unfold offB at *; omega)]
  have e : offB c i + 1 - 9 = i * (payW c + 1) := by unfold offB; omega
  rw [e, Nat.mul_mod_left, Nat.mul_div_cancel _ (by omega), if_neg (by omega)]
theorem findC_some {c x i : Nat} (h : findC c x = some i) : i < perC c ∧ x = offB c i + 1 := by
  unfold findC at h
  split at h
  · cases h
  · split at h
    · cases h
    · rename_i h1 h2
      injection h with h
      have h3 := Nat.div_add_mod (x - 9) (payW c + 1)
      rw [h] at h3 h2
      refine ⟨by omega, ?_⟩
      unfold offB
      rw [Nat.mul_comm] at h3
      omega
def Pay (w : World) : Prop := ∀ i, i < 5 → w.cell? ⟨2, i, none⟩ = some (.int .i64 (payW i : Int))
theorem Pay.size {w : World} (h : Pay w) : 2 < w.heap.size := World.block_lt_of_cell? _ _ (h 0 (by omega))
theorem Pay.below {w w' : World} (h : Pay w) (hb : Below w.heap.size w w') : Pay w' := fun i hi => by
  rw [hb.cell (p := ⟨2, i, none⟩) h.size]
  exact h i hi
section
set_option maxRecDepth 100000
set_option maxHeartbeats 1000000
theorem szWords_any (c : Nat) (hc : c < 5) (w : World) (hp : Pay w) : Calls Tryz.prog 147 #[.int .i64 (c : Int)] w fun e w' => e = .returned (.int .i64 (payW c : Int)) ∧ w = w' := by
  have f := hp c hc
  have h1 : (0 : Int) ≤ (c : Int) := by omega
  have h2 : (c : Int) < 5 := by omega
  clear hp
  generalize payW c = q at *
  go_enter Tryz.func147, Tryz.ntmps147
  go_wp2
  go_ret
  exact ⟨rfl, rfl⟩
theorem perChunk_any (c : Nat) (hc : c < 5) (w : World) (hp : Pay w) : Calls Tryz.prog 201 #[.int .i64 (c : Int)] w fun e w' => e = .returned (.int .i64 (perC c : Int)) ∧ w = w' := by
  have HW := Lib.hid (szWords_any c hc w hp)
  obtain ⟨g3, g4⟩ := pay_le c
  have e1 : ((payW c : Int) == 0) = false := by rw [beq_eq_false_iff_ne]; omega
  have e2 : (248 : Int) / ((payW c : Int) + 1) = (perC c : Int) := by
    rw [show ((payW c : Int) + 1) = ((payW c + 1 : Nat) : Int) by omega]
    exact (Int.natCast_ediv 248 (payW c + 1)).symm
  have e3 : (248 : Int).tdiv ((payW c : Int) + 1) = (perC c : Int) := by rw [Int.tdiv_eq_ediv_of_nonneg (by omega)]; exact e2
  have e4 : ¬ ((payW c : Int) + 1 = 0) := by omega
  obtain ⟨g1, g2⟩ := per_le c
  clear hp
  generalize payW c = q at *
  generalize perC c = r at *
  go_enter Tryz.func201, Tryz.ntmps201
  go_wp2_with (go_at_call 147; refine HW.out.mono ?_; rintro e w1 ⟨rfl, rfl⟩)
  go_ret
  exact ⟨rfl, rfl⟩
theorem offset_any (c i : Nat) (hc : c < 5) (hi : i < perC c) (w : World) (hp : Pay w) : Calls Tryz.prog 299 #[.int .i64 (c : Int), .int .i64 (i : Int)] w fun e w' => e = .returned (.tuple #[.int .i64 (offB c i : Int), .int .i64 0]) ∧ w = w' := by
  have HW := Lib.hid (perChunk_any c hc w hp)
  have f := hp c hc
  obtain ⟨g3, g4⟩ := pay_le c
  obtain ⟨g1, g2⟩ := per_le c
  have h3 := off_lt hi
  have e1 : ((perC c : Int) == 0) = false := by rw [beq_eq_false_iff_ne]; omega
  have e2 : (i : Int) < (perC c : Int) := by omega
  have e2b : (0 : Int) ≤ (i : Int) := by omega
  have e2c : decide ((perC c : Int) ≤ (i : Int)) = false := decide_eq_false (by omega)
  have e5 : (0 : Int) ≤ (c : Int) := by omega
  have e6 : (c : Int) < 5 := by omega
  have e7 : IntKind.i64.wrap ((i : Int) * ((payW c : Int) + 1)) = ((i * (payW c + 1) : Nat) : Int) := by
    rw [show (i : Int) * ((payW c : Int) + 1) = ((i * (payW c + 1) : Nat) : Int) by push_cast; rfl]
    exact IntWalk.i64_in _ (by unfold offB at h3; omega)
  have e7b : wrap64 ((i : Int) * ((payW c : Int) + 1)) = ((i * (payW c + 1) : Nat) : Int) := by
    rw [show (i : Int) * ((payW c : Int) + 1) = ((i * (payW c + 1) : Nat) : Int) by push_cast; rfl]
    unfold wrap64; unfold offB at h3; omega
  have HOf : Hid ((offB c i : Int) = 8 + ((i * (payW c + 1) : Nat) : Int)) := Lib.hid (by unfold offB; omega)
  have h4 : i * (payW c + 1) ≤ 256 := by unfold offB at h3; omega
  clear hp h3
  generalize i * (payW c + 1) = z at *
  generalize offB c i = ob at *
  generalize payW c = q at *
  generalize perC c = r at *
  go_enter Tryz.func299, Tryz.ntmps299
  go_wp2_with (go_at_call 201; refine HW.out.mono ?_; rintro e w1 ⟨rfl, rfl⟩)
  go_ret2
  exact ⟨by rw [HOf.out]; rfl, rfl⟩
def findR (c x : Nat) : Value := match findC c x with
  | some i => .tuple #[.int .i64 (i : Int), .bool true]
  | none => .tuple #[.int .i64 0, .bool false]
theorem szFind_any (c x : Nat) (hc : c < 5) (hx : x ≤ 1000000000) (w : World) (hp : Pay w) : Calls Tryz.prog 237 #[.int .i64 (c : Int), .int .i64 (x : Int)] w fun e w' => e = .returned (findR c x) ∧ w = w' := by
  have HW := Lib.hid (perChunk_any c hc w hp)
  have f := hp c hc
  obtain ⟨g3, g4⟩ := pay_le c
  obtain ⟨g1, g2⟩ := per_le c
  have e1 : ((perC c : Int) == 0) = false := by rw [beq_eq_false_iff_ne]; omega
  have e5 : (0 : Int) ≤ (c : Int) := by omega
  have e6 : (c : Int) < 5 := by omega
  by_cases h1 : x ≤ 8 ∨ 256 ≤ x
  · have hr : findR c x = .tuple #[.int .i64 0, .bool false] := by unfold findR findC; rw [if_pos h1]
    rw [hr]
    clear hr hp
    generalize payW c = q at *
    generalize perC c = r at *
    rcases h1 with h1 | h1
    · have d1 : decide ((x : Int) ≤ 8) = true := decide_eq_true (by omega)
      go_enter Tryz.func237, Tryz.ntmps237
      go_wp2_with (go_at_call 201; refine HW.out.mono ?_; rintro e w1 ⟨rfl, rfl⟩)
      go_ret2
      exact ⟨rfl, rfl⟩
    · have d1 : decide ((x : Int) ≤ 8) = false := decide_eq_false (by omega)
      have d2 : decide (256 ≤ (x : Int)) = true := decide_eq_true (by omega)
      go_enter Tryz.func237, Tryz.ntmps237
      go_wp2_with (go_at_call 201; refine HW.out.mono ?_; rintro e w1 ⟨rfl, rfl⟩)
      go_ret2
      exact ⟨rfl, rfl⟩
  · have d1 : decide ((x : Int) ≤ 8) = false := decide_eq_false (by omega)
    have d2 : decide (256 ≤ (x : Int)) = false := decide_eq_false (by omega)
    have k1 : (8 : Int) < (x : Int) := by omega
    have k2 : (x : Int) < 256 := by omega
    obtain ⟨y, hy⟩ : ∃ y, x - 9 = y := ⟨_, rfl⟩
    have hxy : (x : Int) - 8 - 1 = (y : Int) := by omega
    have m1 : ((y : Int) % ((payW c : Int) + 1)) = ((y % (payW c + 1) : Nat) : Int) := by
      rw [show ((payW c : Int) + 1) = ((payW c + 1 : Nat) : Int) by omega]; exact (Int.natCast_emod y (payW c + 1)).symm
    have m2 : ((y : Int) / ((payW c : Int) + 1)) = ((y / (payW c + 1) : Nat) : Int) := by
      rw [show ((payW c : Int) + 1) = ((payW c + 1 : Nat) : Int) by omega]; exact (Int.natCast_ediv y (payW c + 1)).symm
    have m3 : ((y : Int).tmod ((payW c : Int) + 1)) = ((y % (payW c + 1) : Nat) : Int) := by rw [Int.tmod_eq_emod_of_nonneg (by omega)]; exact m1
    have m4 : ((y : Int).tdiv ((payW c : Int) + 1)) = ((y / (payW c + 1) : Nat) : Int) := by rw [Int.tdiv_eq_ediv_of_nonneg (by omega)]; exact m2
    have n1 : y % (payW c + 1) ≤ 256 := by have := Nat.mod_le y (payW c + 1); omega
    have n2 : y / (payW c + 1) ≤ 256 := by have := Nat.div_le_self y (payW c + 1); omega
    have HR : Hid (findR c x = if y % (payW c + 1) ≠ 0 ∨ perC c ≤ y / (payW c + 1) then .tuple #[.int .i64 0, .bool false] else .tuple #[.int .i64 ((y / (payW c + 1) : Nat) : Int), .bool true]) := Lib.hid (by
      unfold findR findC
      rw [if_neg h1, hy]
      by_cases hz : y % (payW c + 1) ≠ 0 ∨ perC c ≤ y / (payW c + 1)
      · rw [if_pos hz, if_pos hz]
      · rw [if_neg hz, if_neg hz])
    clear hp h1 hy
    generalize findR c x = rr at *
    generalize y % (payW c + 1) = ym at *
    generalize y / (payW c + 1) = yd at *
    generalize payW c = q at *
    generalize perC c = r at *
    have yp : (0 : Int) ≤ (y : Int) := by omega
    have q1 : ¬ ((q : Int) + 1 = 0) := by omega
    by_cases h2 : ym = 0
    · by_cases h3 : yd < r
      · have r1 : ((ym : Int) == 0) = true := by rw [beq_iff_eq]; omega
        have r2 : decide ((r : Int) ≤ (yd : Int)) = false := decide_eq_false (by omega)
        have r3 : decide (r ≤ yd) = false := decide_eq_false (by omega)
        subst h2
        rw [HR.out, if_neg (by omega)]
        clear HR
        go_enter Tryz.func237, Tryz.ntmps237
        go_wp2_with (go_at_call 201; refine HW.out.mono ?_; rintro e w1 ⟨rfl, rfl⟩)
        go_ret2
        exact ⟨rfl, rfl⟩
      · have r2 : decide ((r : Int) ≤ (yd : Int)) = true := decide_eq_true (by omega)
        have r3 : decide (r ≤ yd) = true := decide_eq_true (by omega)
        subst h2
        rw [HR.out, if_pos (by omega)]
        clear HR
        go_enter Tryz.func237, Tryz.ntmps237
        go_wp2_with (go_at_call 201; refine HW.out.mono ?_; rintro e w1 ⟨rfl, rfl⟩)
        go_ret2
        exact ⟨rfl, rfl⟩
    · have r1 : ((ym : Int) == 0) = false := by rw [beq_eq_false_iff_ne]; omega
      rw [HR.out, if_pos (by omega)]
      clear HR
      go_enter Tryz.func237, Tryz.ntmps237
      go_wp2_with (go_at_call 201; refine HW.out.mono ?_; rintro e w1 ⟨rfl, rfl⟩)
      go_ret2
      exact ⟨rfl, rfl⟩
def clsOf (n : Nat) : Nat := if n ≤ 3 then 0 else if n ≤ 7 then 1 else if n ≤ 15 then 2 else if n ≤ 31 then 3 else 4
theorem class_any (n : Nat) (h0 : 0 < n) (h60 : n ≤ 60) (w : World) (hp : Pay w) : Calls Tryz.prog 151 #[.int .i64 (n : Int)] w fun e w' => e = .returned (.tuple #[.int .i64 (clsOf n : Int), .int .i64 0]) ∧ w = w' := by
  have HP := Lib.hid hp
  have h1 : (1 : Int) ≤ (n : Int) := by omega
  have HC : Hid (clsOf n < 5 ∧ ∀ i, i < 5 → (n ≤ payW i ↔ clsOf n ≤ i)) := Lib.hid (by
    have hcl : (n ≤ 3 ∧ clsOf n = 0) ∨ (3 < n ∧ n ≤ 7 ∧ clsOf n = 1) ∨ (7 < n ∧ n ≤ 15 ∧ clsOf n = 2) ∨ (15 < n ∧ n ≤ 31 ∧ clsOf n = 3) ∨ (31 < n ∧ clsOf n = 4) := by
      unfold clsOf
      by_cases a1 : n ≤ 3
      · rw [if_pos a1]; omega
      · rw [if_neg a1]
        by_cases a2 : n ≤ 7
        · rw [if_pos a2]; omega
        · rw [if_neg a2]
          by_cases a3 : n ≤ 15
          · rw [if_pos a3]; omega
          · rw [if_neg a3]
            by_cases a4 : n ≤ 31
            · rw [if_pos a4]; omega
            · rw [if_neg a4]; omega
    refine ⟨by omega, fun i hi => ?_⟩
    have hi5 : i = 0 ∨ i = 1 ∨ i = 2 ∨ i = 3 ∨ i = 4 := by omega
    rcases hi5 with rfl | rfl | rfl | rfl | rfl <;> simp only [payW] <;> omega)
  clear hp
  generalize clsOf n = cn at *
  go_enter Tryz.func151, Tryz.ntmps151
  go_wp2
  go_loopw [7] (fun i wr => ∃ k : Nat, k ≤ 5 ∧ k ≤ cn ∧ i = .int .i64 (k : Int) ∧ Hid (w = wr)) (fun i _ => 5 - (Go.RowKit.intOf i).toNat)
  case atStart => exact ⟨0, by omega, Nat.zero_le _, rfl, Lib.hid rfl⟩
  case round =>
    obtain ⟨k, hk, hkc, rfl, hw⟩ := hrel
    have hw := hw.out
    subst hw
    have hk5 : k < 5 := by have := HC.out.1; omega
    have f := HP.out k hk5
    have hz5 : (0 : Int) ≤ (k : Int) := by omega
    have hz6 : (k : Int) < 5 := by omega
    have hiff := HC.out.2 k hk5
    generalize payW k = q at *
    by_cases hle : n ≤ q
    · have d : decide ((n : Int) ≤ (q : Int)) = true := decide_eq_true (by omega)
      have hkk : k = cn := by have := hiff.1 hle; omega
      subst hkk
      clear hiff
      go_wp2
      go_ret2
      exact ⟨rfl, rfl⟩
    · have d : decide ((n : Int) ≤ (q : Int)) = false := decide_eq_false (by omega)
      have hlt : k < cn := by
        have : ¬ cn ≤ k := fun h => hle (hiff.2 h)
        omega
      clear hiff
      go_wp2
      go_roundw
      case rel =>
        first
          | exact ⟨k + 1, by omega, by omega, by go_num, Lib.hid trivial⟩
          | exact ⟨k + 1, by omega, by omega, by go_num, Lib.hid rfl⟩
      case measure => simp [Go.RowKit.intOf]; omega
end
end Go.Proofs.YtpihhlbfpbngaaaGreatDoor
namespace Go.Proofs.YtpihhlbfpbngaaaGreatDoor
open Go.RowKit Go.Maps
def SetD (D : DataW Unit) (l : List Nat) : Prop := ∀ x, D.atKey (kU x) (.lit (.bool false)) = .lit (.bool (decide (x ∈ l)))
theorem SetD.nil : SetD (.map []) [] := fun x => by simp [DataW.atKey]
theorem kU_ne {x y : Nat} (h : x ≠ y) : kU x ≠ kU y := fun e => h (kU_inj e)
theorem kU_key (x : Nat) : WideAt.IsKeyLit (kU x) := by simp [WideAt.IsKeyLit]
theorem SetD.put {D : DataW Unit} {l : List Nat} (h : SetD D l) (hm : IsMap D) (o : Nat) : SetD (D.put (kU o) (.lit (.bool true))) (o :: l) := fun x => by
  by_cases hx : x = o
  · subst hx; rw [atKey_put_same hm (kU_key x)]; simp
  · rw [atKey_put_other (kU_ne hx), h x]; simp [hx]
def OSet (w : World) (b n : Nat) (l : List Nat) : Prop := ∃ D : DataW Unit, w.ownsMap Tryz.prog 26 (plainElem Tryz.prog 4) b n D ∧ SetD D l
theorem keyU {x : Nat} (h : x < 18446744073709551616) : keyOf Tryz.prog 26 (.int .u64 (x : Int)) = some (kU x) := keyOf_int_mk Tryz.underlying26 (wf_u64_nat h)
theorem keyedU : Keyed Tryz.prog 26 := int_keyed Tryz.underlying26
theorem plainElem_bool_inv {P : Program} {e : TypeId} (he : P.underlying e = some .bool) {v : Value} {z : DataW Unit × List MemPlace} (h : plainElem P e v = some z) : ∃ b, v = .bool b ∧ z = (.lit (.bool b), []) := by
  cases v <;> simp [plainElem, he] at h
  rename_i b
  exact ⟨b, rfl, h.symm⟩
theorem OSet.look {w : World} {b n : Nat} {l : List Nat} (h : OSet w b n l) {x : Nat} (hx : x < 18446744073709551616) : (Instr.lookup 395 (.map (some b)) (.int .u64 (x : Int)) false).run Tryz.prog w = .ok (.bool (decide (x ∈ l))) w := by
  obtain ⟨D, ho, hd⟩ := h
  obtain ⟨v, ps, hrun, hv⟩ := ho.lookup keyedU Tryz.underlying395 (z := .bool false) (by kernel_rfl) (plainElem_bool Tryz.underlying4 false) (keyU hx)
  obtain ⟨c, rfl, hc⟩ := plainElem_bool_inv Tryz.underlying4 hv
  rw [hd x] at hc
  simp at hc
  rw [hrun, hc.1]
theorem OSet.add {w : World} {b n : Nat} {l : List Nat} (h : OSet w b n l) (hn : n < maxLen) {x : Nat} (hx : x < 18446744073709551616) : ∃ w', (Instr.mapUpdate 395 (.map (some b)) (.int .u64 (x : Int)) (.bool true)).run Tryz.prog w = .ok () w' ∧ OSet w' b (n + 1) (x :: l) ∧ w.grownBy w' (some b) := by
  obtain ⟨D, ho, hd⟩ := h
  obtain ⟨w', hrun, ho', hg⟩ := ho.update keyedU Tryz.underlying395 hn (keyU hx) (plainElem_bool Tryz.underlying4 true)
  exact ⟨w', hrun, ⟨_, ho', hd.put ho.isMap x⟩, hg⟩
theorem OSet.congr {w : World} {b n : Nat} {l l' : List Nat} (h : OSet w b n l) (hl : ∀ x, x ∈ l ↔ x ∈ l') : OSet w b n l' := by
  obtain ⟨D, ho, hd⟩ := h
  exact ⟨D, ho, fun x => by rw [hd x]; simp [hl x]⟩
theorem OSet.mono {w : World} {b n n' : Nat} {l : List Nat} (h : OSet w b n l) (hn : n ≤ n') : OSet w b n' l := by
  obtain ⟨D, ho, hd⟩ := h
  exact ⟨D, ho.mono hn, hd⟩
theorem OSet.new (w : World) : OSet (w.alloc (.map #[] 0)) w.heap.size 0 [] := ⟨_, World.ownsMap_made w _ _ _, SetD.nil⟩
theorem OSet.alloc {w : World} {b n : Nat} {l : List Nat} (h : OSet w b n l) (o : Obj) : OSet (w.alloc o) b n l := by
  obtain ⟨D, ho, hd⟩ := h
  exact ⟨D, ho.alloc o, hd⟩
theorem OSet.kept {w w' : World} {b n : Nat} {l : List Nat} {row : Option Nat} (h : OSet w b n l) (hg : w.grownBy w' row) (hne : some b ≠ row) : OSet w' b n l := by
  obtain ⟨D, ho, hd⟩ := h
  exact ⟨D, ho.kept hg hne, hd⟩
theorem OSet.below {w w' : World} {b n : Nat} {l : List Nat} (h : OSet w b n l) (hb : Below w.heap.size w w') : OSet w' b n l := by
  obtain ⟨D, ho, hd⟩ := h
  exact ⟨D, (Chg.of_below (S := Fp.no) hb).map ho (fun h => h), hd⟩
theorem OSet.lt {w : World} {b n : Nat} {l : List Nat} (h : OSet w b n l) : b < w.heap.size := by
  obtain ⟨D, ho, hd⟩ := h
  exact ho.lt
theorem OSet.ne_own {w : World} {b n : Nat} {l : List Nat} (h : OSet w b n l) {base : Nat} {e : TypeId} {size m : Nat} {v : Value} {xs : List Value} (ho : w.ownsRow base e size v m xs) : some b ≠ v.ownBlock := by
  obtain ⟨D, hm, hd⟩ := h
  exact map_ne_own hm ho
def frStep (st : List Nat × List Nat) (o : Nat) : List Nat × List Nat := if o ∈ st.1 then st else (o :: st.1, st.2 ++ [o])
def fr (seen offs : List Nat) : List Nat × List Nat := offs.foldl frStep (seen, [])
end Go.Proofs.YtpihhlbfpbngaaaGreatDoor
