/- The walks and laws that the claim leans on, part 50. -/
import Derived.Test.YtpihhlbfpbngaaaGreatDoorJbq
import Derived.Lib.BytesEntry
namespace Go.Proofs.YtpihhlbfpbngaaaGreatDoor.Crc
theorem rbits_lt {r b : Nat} (hr : r < 4294967296) (k : Nat) : rbits r b k < 4294967296 := by
  induction k with
  | zero => exact hr
  | succ k ih =>
    simp only [rbits, rbit]
    have hm : (rbits r b k % 2 + b / 2 ^ k % 2) % 2 = 0 ∨ (rbits r b k % 2 + b / 2 ^ k % 2) % 2 = 1 := by omega
    exact xor_lt (by omega) (by rcases hm with hm | hm <;> rw [hm] <;> simp [poly])
theorem sum_eqR (l : List Nat) : reg ones l ^^^ 4294967295 = sum l := by
  unfold sum update
  rw [show 0 ^^^ ones = ones from by decide]; rfl
end Go.Proofs.YtpihhlbfpbngaaaGreatDoor.Crc
namespace Go.Proofs.YtpihhlbfpbngaaaGreatDoor
open Go.RowKit
def sz4 : Obj := .cells #[.int .i64 3, .int .i64 7, .int .i64 15, .int .i64 31] 3
theorem sz4_cell (w : World) (k : Nat) (hk : k < 4) : (w.alloc sz4).cell? ⟨w.heap.size, k, none⟩ = some (.int .i64 (payW k : Int)) := by
  have : (w.alloc sz4).heap[w.heap.size]? = some sz4 := heap_alloc_new w _
  rw [cell_of_row _ _ _ _ _ _ this]
  have : k = 0 ∨ k = 1 ∨ k = 2 ∨ k = 3 := by omega
  rcases this with rfl | rfl | rfl | rfl <;> rfl
set_option maxRecDepth 100000 in
set_option maxHeartbeats 2000000 in
theorem refWords_any (n : Nat) (hn : n ≤ 100000) (w : World) : Calls Tryz.prog 63 #[.int .i64 (n : Int)] w fun e w' => e = .returned (.int .i64 (bSize n : Int)) ∧ Below w.heap.size w w' := by
  by_cases h : 456 < n
  · have hb : bSize n = 60 := by unfold bSize; rw [if_pos h]
    have d1 : decide ((456 : Int) < (n : Int)) = true := decide_eq_true (by omega)
    have d2 : (456 : Int) < (n : Int) := by omega
    rw [hb]
    clear hb
    go_enter Tryz.func63, Tryz.ntmps63
    go_wp2
    go_ret
    exact ⟨rfl, Below.refl _ _⟩
  · have hb : bSize n = payW (clsOf (3 + (n + 7) / 8)) := by unfold bSize; rw [if_neg h]
    have d1 : decide ((456 : Int) < (n : Int)) = false := decide_eq_false (by omega)
    obtain ⟨c, hc⟩ : ∃ c, 3 + (n + 7) / 8 = c := ⟨_, rfl⟩
    have v1 : (3 : Int) + ((n : Int) + 7) / 8 = (c : Int) := by omega
    rw [hc] at hb
    have hc2 : c ≤ 61 := by omega
    rw [hb]
    clear hb hc
    go_enter Tryz.func63, Tryz.ntmps63
    have HC : Hid (∀ i, i < 4 → (c ≤ payW i ↔ clsOf c ≤ i)) := Lib.hid (by
      intro i hi
      have hcl : (c ≤ 3 ∧ clsOf c = 0) ∨ (3 < c ∧ c ≤ 7 ∧ clsOf c = 1) ∨ (7 < c ∧ c ≤ 15 ∧ clsOf c = 2) ∨ (15 < c ∧ c ≤ 31 ∧ clsOf c = 3) ∨ (31 < c ∧ clsOf c = 4) := by
        unfold clsOf
        by_cases a1 : c ≤ 3
        · rw [if_pos a1]; omega
        · rw [if_neg a1]
          by_cases a2 : c ≤ 7
          · rw [if_pos a2]; omega
          · rw [if_neg a2]
            by_cases a3 : c ≤ 15
            · rw [if_pos a3]; omega
            · rw [if_neg a3]
              by_cases a4 : c ≤ 31
              · rw [if_pos a4]; omega
              · rw [if_neg a4]; omega
      have hi5 : i = 0 ∨ i = 1 ∨ i = 2 ∨ i = 3 := by omega
      rcases hi5 with rfl | rfl | rfl | rfl <;> simp only [payW] <;> omega)
    have h4 := clsOf_lt c
    generalize clsOf c = cn at *
    go_wp2
    go_loopw [14] (fun i wr => ∃ k : Nat, k ≤ 4 ∧ k ≤ cn ∧ i = .int .i64 (k : Int) ∧ wr = w.alloc sz4) (fun i _ => 4 - (Go.RowKit.intOf i).toNat)
    case atStart => exact ⟨0, by omega, Nat.zero_le _, rfl, rfl⟩
    case round =>
      obtain ⟨k, hk, hkc, rfl, rfl⟩ := hrel
      by_cases hk4 : k < 4
      · have f := sz4_cell w k hk4
        have hiff := HC.out k hk4
        have hsz : w.heap.size < (w.alloc sz4).heap.size := World.block_lt_of_cell? _ _ f
        have HB : Hid (Below w.heap.size w (w.alloc sz4)) := Lib.hid ((Below.refl _ w).alloc (Nat.le_refl _) _)
        generalize w.alloc sz4 = W at *
        have HP : Hid (payW k = payW k) := Lib.hid rfl
        generalize hq : payW k = q at *
        by_cases hle : c ≤ q
        · have d : decide ((c : Int) ≤ (q : Int)) = true := decide_eq_true (by omega)
          have hkk : k = cn := by have := hiff.1 hle; omega
          subst hkk
          have HQ := Lib.hid hq
          clear hiff hq
          go_wp2
          go_ret
          exact ⟨by rw [HQ.out]; rfl, HB.out⟩
        · have d : decide ((c : Int) ≤ (q : Int)) = false := decide_eq_false (by omega)
          have hlt : k < cn := by
            have : ¬ cn ≤ k := fun h => hle (hiff.2 h)
            omega
          clear hiff hq
          go_wp2
          go_roundw
          case rel => exact ⟨k + 1, by omega, by omega, by go_num, trivial⟩
          case measure => simp [Go.RowKit.intOf]; omega
      · have hcn : cn = 4 := by omega
        subst hcn
        have HB : Hid (Below w.heap.size w (w.alloc sz4)) := Lib.hid ((Below.refl _ w).alloc (Nat.le_refl _) _)
        generalize w.alloc sz4 = W at *
        go_wp2
        go_ret
        exact ⟨rfl, HB.out⟩
end Go.Proofs.YtpihhlbfpbngaaaGreatDoor
namespace Go.Proofs.YtpihhlbfpbngaaaGreatDoor
def pkD (p : List Nat) (i j : Nat) : Nat := lev ((p.take (8 * j + 8)).drop (max i (8 * j)))
theorem pkD_same {p : List Nat} {i : Nat} (hi : i < p.length) : pkD p i (i / 8) = pkD p (i + 1) (i / 8) * 256 + p[i] := by
  have h1 : max i (8 * (i / 8)) = i := by omega
  have h2 : max (i + 1) (8 * (i / 8)) = i + 1 := by omega
  have h3 : i < (p.take (8 * (i / 8) + 8)).length := by rw [List.length_take]; omega
  unfold pkD
  rw [h1, h2, List.drop_eq_getElem_cons h3, List.getElem_take]
  simp only [lev]
  omega
theorem pkD_other {p : List Nat} {i j : Nat} (h : i / 8 ≠ j) : pkD p i j = pkD p (i + 1) j := by
  unfold pkD
  by_cases hj : i < 8 * j
  · rw [show max i (8 * j) = max (i + 1) (8 * j) by omega]
  · have h8 : 8 * j + 8 ≤ i := by omega
    rw [List.drop_eq_nil_of_le (by rw [List.length_take]; omega), List.drop_eq_nil_of_le (by rw [List.length_take]; omega)]
theorem pkD_top {p : List Nat} {i : Nat} (hi : p.length ≤ i) (j : Nat) : pkD p i j = 0 := by
  unfold pkD
  rw [List.drop_eq_nil_of_le (by rw [List.length_take]; omega)]; rfl
theorem pkD_end (p : List Nat) (j : Nat) : pkD p 0 j = lev ((p.drop (8 * j)).take 8) := by
  unfold pkD
  rw [show max 0 (8 * j) = 8 * j by omega, List.drop_take, show 8 * j + 8 - 8 * j = 8 by omega]
theorem pkD_lt {p : List Nat} (h : ∀ b ∈ p, b < 256) (i j : Nat) : pkD p i j < 18446744073709551616 := by
  unfold pkD
  refine Nat.lt_of_lt_of_le (lev_lt _ fun b hb => h b (List.mem_of_mem_take (List.mem_of_mem_drop hb))) ?_
  rw [List.length_drop, List.length_take]
  refine Nat.le_trans (Nat.pow_le_pow_right (by omega) (show _ ≤ 8 by omega)) (by decide)
theorem packW_pkD (p : List Nat) : packW p = (List.range ((p.length + 7) / 8)).map (pkD p 0) := by
  unfold packW
  exact List.map_congr_left fun j _ => (pkD_end p j).symm
def payD (next n m : Nat) (p : List Nat) (i : Nat) : List Nat := [next, n * 4294967297] ++ (List.range ((p.length + 7) / 8)).map (pkD p i) ++ List.replicate m 0
theorem payD_top {next n m : Nat} {p : List Nat} {i : Nat} (hi : p.length ≤ i) : payD next n m p i = next :: n * 4294967297 :: List.replicate ((p.length + 7) / 8 + m) 0 := by
  unfold payD
  rw [show (List.range ((p.length + 7) / 8)).map (pkD p i) = List.replicate ((p.length + 7) / 8) 0 by
    apply List.ext_getElem
    · simp
    · intro j _ _; simp [pkD_top hi]]
  rw [List.append_assoc, List.replicate_append_replicate]; rfl
theorem payD_step {next n m : Nat} {p : List Nat} {i : Nat} (hi : i < p.length) : payD next n m p i = (payD next n m p (i + 1)).set (2 + i / 8) (pkD p (i + 1) (i / 8) * 256 + p[i]) := by
  rw [← pkD_same hi]
  unfold payD
  rw [List.set_append_left _ _ (by simp; omega), List.set_append_right _ _ (by simp), List.length_cons, List.length_cons, List.length_nil, show 2 + i / 8 - (0 + 1 + 1) = i / 8 by omega]
  congr 2
  apply List.ext_getElem
  · simp
  · intro j h1 h2
    rw [List.getElem_set]
    simp only [List.getElem_map, List.getElem_range]
    split
    · rename_i e; rw [e]
    · rename_i e; exact pkD_other e
theorem payD_at {next n m : Nat} {p : List Nat} {i : Nat} (hi : i < p.length) : ∃ h : 2 + i / 8 < (payD next n m p (i + 1)).length, (payD next n m p (i + 1))[2 + i / 8] = pkD p (i + 1) (i / 8) := by
  have h : 2 + i / 8 < (payD next n m p (i + 1)).length := by unfold payD; simp; omega
  refine ⟨h, Option.some.inj ?_⟩
  rw [← List.getElem?_eq_getElem h]
  unfold payD
  rw [List.getElem?_append_left (by simp; omega), List.getElem?_append_right (by simp), show 2 + i / 8 - [next, n * 4294967297].length = i / 8 by simp]
  rw [List.getElem?_map, List.getElem?_range (by omega)]; rfl
end Go.Proofs.YtpihhlbfpbngaaaGreatDoor
namespace Go.Proofs.YtpihhlbfpbngaaaGreatDoor
open Go.RowKit
set_option maxRecDepth 100000 in
set_option maxHeartbeats 2000000 in
theorem equU_same (A A2 : Option Addr) (n c c2 : Nat) (l : List Nat) (w : World) (h : Reads w w.heap.size 1 A n (uCells l)) (h2 : Reads w w.heap.size 1 A2 n (uCells l)) (hn : n ≤ 1000) :
    Calls Tryz.prog 19 #[.slice A n c, .slice A2 n c2] w fun e w' => e = .returned (.bool true) ∧ Below w.heap.size w w' := by
  have HR := Lib.hid h
  have HR2 := Lib.hid h2
  have d0 : ((n : Int) != (n : Int)) = false := by rw [bne, beq_self_eq_true]; rfl
  clear h h2
  go_enter Tryz.func19, Tryz.ntmps19
  go_wp2_with fail
  go_loopw [13] (fun i wr => ∃ k : Nat, k ≤ n ∧ i = .int .i64 (k : Int) ∧ Hid (Below w.heap.size w wr)) (fun i _ => n - (Go.RowKit.intOf i).toNat)
  case atStart => exact ⟨0, Nat.zero_le _, rfl, Lib.hid (Below.refl _ _)⟩
  case round =>
    obtain ⟨k, hk, rfl, HB⟩ := hrel
    by_cases hlt : k < n
    · obtain ⟨hx1, b, off, hA, hbB, f0⟩ := u_facts (HR.out.below HB.out) hlt
      obtain ⟨hx2, b2, off2, hA2, hbB2, f2⟩ := u_facts (HR2.out.below HB.out) hlt
      have hz5 : (0 : Int) ≤ (k : Int) := by omega
      have hz6 : (k : Int) < (n : Int) := by omega
      subst hA hA2
      generalize l[k] = u at *
      have d3 : ((u : Int) != (u : Int)) = false := by rw [bne, beq_self_eq_true]; rfl
      clear hbB hbB2
      go_upto_region 6 with fail
      go_quiet (fail)
      have HB2 := Lib.hid (below_drewN HB.out nq)
      go_wp2_with fail
      go_roundw
      case rel =>
        first
          | exact ⟨k + 1, by omega, by go_num, HB2⟩
          | (repeat apply Exists.intro
             refine ⟨?_, rfl⟩
             exact ⟨k + 1, by omega, by go_num, HB2⟩)
      case measure => simp [Go.RowKit.intOf]; omega
    · obtain rfl : n = k := by omega
      go_wp2_with fail
      go_ret
      exact ⟨rfl, HB.out⟩
theorem nBlk_step (r : Nat) (h : 456 < r) : nBlk r = nBlk (r - 456) + 1 := by
  unfold nBlk
  rw [if_neg (by omega)]
  split <;> omega
theorem nBlk_one (r : Nat) (h : ¬ 456 < r) : nBlk r = 1 := by
  unfold nBlk
  rw [if_pos (by omega)]
set_option maxRecDepth 100000 in
set_option maxHeartbeats 2000000 in
theorem refBlocks_any (n : Nat) (hn : n ≤ 2000) (w : World) : Calls Tryz.prog 17 #[.int .i64 (n : Int)] w fun e w' => e = .returned (.int .i64 (nBlk n : Int)) ∧ w = w' := by
  obtain ⟨M, hM⟩ : ∃ M, nBlk n = M := ⟨_, rfl⟩
  have hM5 : M ≤ 5 := by rw [← hM]; exact nBlk_few n hn
  have H0 : Hid (1 + nBlk n = M + 1) := Lib.hid (by omega)
  rw [hM]
  clear hM
  go_enter Tryz.func17, Tryz.ntmps17
  go_wp2_with fail
  go_loop [0, 3] (fun v k => ∃ r j : Nat, r ≤ 2000 ∧ j ≤ 5 ∧ v = .int .i64 (r : Int) ∧ k = .int .i64 (j : Int) ∧ Hid (j + nBlk r = M + 1)) (fun v _ => (Go.RowKit.intOf v).toNat)
  case atStart => exact ⟨n, 1, hn, by omega, rfl, rfl, H0⟩
  case round =>
    clear H0
    obtain ⟨r, j, hr, hj, rfl, rfl, HJ⟩ := hrel
    by_cases h : 456 < r
    · have d1 : decide ((456 : Int) < (r : Int)) = true := decide_eq_true (by omega)
      have d2 : (456 : Int) < (r : Int) := by omega
      have hj5 : j + 1 ≤ 5 := by
        have h1 := HJ.out
        have h2 := nBlk_step r h
        have h3 := nBlk_drop (List.replicate (r - 456) 0)
        rw [List.length_replicate] at h3
        omega
      have HJ2 : Hid (j + 1 + nBlk (r - 456) = M + 1) := Lib.hid (by have h1 := HJ.out; have h2 := nBlk_step r h; omega)
      have e1 : (r : Int) - 456 = ((r - 456 : Nat) : Int) := by omega
      have HE := Lib.hid e1
      clear e1
      go_wp2_with fail
      go_round
      case rel => exact ⟨r - 456, j + 1, by omega, hj5, by rw [HE.out], by go_num, HJ2⟩
      case measure => simp [Go.RowKit.intOf]; omega
    · have d1 : decide ((456 : Int) < (r : Int)) = false := decide_eq_false (by omega)
      have d2 : (r : Int) ≤ 456 := by omega
      have hjM : j = M := by
        have h1 := HJ.out
        have h2 := nBlk_one r h
        omega
      subst hjM
      go_wp2_with fail
      go_ret
      exact ⟨rfl, rfl⟩
end Go.Proofs.YtpihhlbfpbngaaaGreatDoor
namespace Go.Proofs.YtpihhlbfpbngaaaGreatDoor
open Go.RowKit
theorem rb_no (r b j q : Nat) (hq : Crc.rbits r b j = q) (h : (q % 2 + b / 2 ^ j % 2) % 2 ≠ 1) : q / 2 = Crc.rbits r b (j + 1) := by
  simp only [Crc.rbits, Crc.rbit, hq]
  have h3 : (q % 2 + b / 2 ^ j % 2) % 2 = 0 := by omega
  rw [h3]; simp
theorem rb_yes (r b j q : Nat) (hq : Crc.rbits r b j = q) (h : (q % 2 + b / 2 ^ j % 2) % 2 = 1) : q / 2 ^^^ Crc.poly = Crc.rbits r b (j + 1) := by
  simp only [Crc.rbits, Crc.rbit, hq, h]
  simp
theorem poly_bits64 (q : Nat) (hq : q < 4294967296) : bits .xor .u64 ((q : Int) / 2) 2197175160 = ((q / 2 ^^^ Crc.poly : Nat) : Int) := by
  rw [show ((q : Int) / 2) = ((q / 2 : Nat) : Int) by omega]
  exact u64_xor_nat _ Crc.poly (by omega) (by decide)
theorem bit_bits64 (q y : Nat) (hq : q < 4294967296) (hy : y < 18446744073709551616) : ∃ z : Nat, z < 18446744073709551616 ∧ bits .xor .u64 (q : Int) (y : Int) = (z : Int) ∧ bits .and .u64 (z : Int) 1 = (((q % 2 + y % 2) % 2 : Nat) : Int) := by
  have hz : q ^^^ y < 18446744073709551616 := Nat.xor_lt_two_pow (n := 64) (by omega) hy
  refine ⟨q ^^^ y, hz, u64_xor_nat _ _ (by omega) hy, ?_⟩
  rw [← Crc.xor_mod2, show (1 : Int) = ((1 : Nat) : Int) from rfl, u64_and_nat _ 1 hz (by omega), Nat.and_one_is_mod]
set_option maxRecDepth 100000 in
set_option maxHeartbeats 2000000 in
theorem refWsum_any (A : Option Addr) (n cap B : Nat) (xs : List Nat) (w : World) (hrd : Reads w B 1 A n (uCells xs)) (hv : ∀ x ∈ xs, x < 18446744073709551616) (hn : n ≤ 1000000) :
    Calls Tryz.prog 64 #[.slice A n cap] w fun e w' => e = .returned (.int .u64 (sumW xs : Int)) ∧ ∃ m, w' = w.drewN m := by
  have HR := Lib.hid hrd
  have HV : Hid (∀ k (hk : k < xs.length), xs[k] < 18446744073709551616) := Lib.hid (fun k hk => hv _ (List.getElem_mem hk))
  have HLn := Lib.hid (show xs.length = n by have := hrd.1; simp [uCells] at this; omega)
  have uc : IntKind.u64.signed = false := rfl
  clear hrd hv
  go_enter Tryz.func64, Tryz.ntmps64
  go_wp2
  go_loopw [3, 10] (fun r i wr => ∃ k s m : Nat, k ≤ n ∧ s < 4294967296 ∧ i = .int .i64 (k : Int) ∧ r = .int .u64 (s : Int) ∧ Hid (s = Crc.reg Crc.ones (wsB (xs.take k))) ∧ wr = w.drewN m) (fun _ i _ => n - (Go.RowKit.intOf i).toNat)
  case atStart => exact ⟨0, 4294967295, 0, Nat.zero_le _, by omega, by go_num, by go_num, Lib.hid rfl, rfl⟩
  case round =>
    obtain ⟨k, s, m, hk, hs, rfl, rfl, hse, rfl⟩ := hrel
    by_cases hlt : k < n
    · obtain ⟨hkl, b, off, hA, hbB, q0⟩ := u_facts HR.out hlt
      subst hA
      have hx := HV.out k hkl
      have HS : Hid (Crc.rbits s xs[k] 64 = Crc.reg Crc.ones (wsB (xs.take (k + 1)))) := by
        show _ = _
        rw [take_snoc xs k hkl, wsB_snoc, Crc.reg_append, ← hse.out, ← Crc.rbits_word s xs[k] 8]
      generalize xs[k] = x at *
      go_wp2
      go_loopw [3, 6] (fun q i wr => ∃ j m : Nat, j ≤ 64 ∧ i = .int .i64 (j : Int) ∧ q = .int .u64 ((Crc.rbits s x j : Nat) : Int) ∧ wr = w.drewN m) (fun _ i _ => 64 - (Go.RowKit.intOf i).toNat)
      case atStart => exact ⟨0, m, Nat.zero_le _, rfl, rfl, rfl⟩
      case round =>
        obtain ⟨j, m', hj, rfl, rfl, rfl⟩ := hrel
        have hq : Crc.rbits s x j < 4294967296 := Crc.rbits_lt hs j
        generalize hqq : Crc.rbits s x j = q at *
        have HQ := Lib.hid hqq
        clear hqq
        by_cases hj8 : j < 64
        · have HB : Hid (bits .and .u64 (bits .xor .u64 (q : Int) ((x : Int) / 2 ^ j)) 1 = (((q % 2 + x / 2 ^ j % 2) % 2 : Nat) : Int)) := by
            show _ = _
            have hd : ((x : Int) / 2 ^ j) = ((x / 2 ^ j : Nat) : Int) := by simp
            have hy : x / 2 ^ j < 18446744073709551616 := Nat.lt_of_le_of_lt (Nat.div_le_self _ _) hx
            obtain ⟨z, _, e1, e2⟩ := bit_bits64 q (x / 2 ^ j) hq hy
            rw [hd, e1, e2]
          go_wp2
          · go_roundw
            case rel =>
              have h := ‹(bits BinOp.and IntKind.u64 (bits BinOp.xor IntKind.u64 (q : Int) ((x : Int) / 2 ^ j)) 1 == 1) = true›
              rw [HB.out] at h
              have h2 : (q % 2 + x / 2 ^ j % 2) % 2 = 1 := by
                generalize (q % 2 + x / 2 ^ j % 2) % 2 = t at *
                have := eq_of_beq h
                omega
              exact ⟨j + 1, _, by omega, by go_num, by rw [poly_bits64 q hq, rb_yes s x j q HQ.out h2], rfl⟩
            case measure => simp [Go.RowKit.intOf]; omega
          · go_roundw
            case rel =>
              have h := ‹(bits BinOp.and IntKind.u64 (bits BinOp.xor IntKind.u64 (q : Int) ((x : Int) / 2 ^ j)) 1 == 1) = false›
              rw [HB.out] at h
              have h2 : (q % 2 + x / 2 ^ j % 2) % 2 ≠ 1 := by intro e; rw [e] at h; simp at h
              exact ⟨j + 1, _, by omega, by go_num, by rw [← rb_no s x j q HQ.out h2]; go_num, rfl⟩
            case measure => simp [Go.RowKit.intOf]; omega
        · have HE : Hid (q = Crc.reg Crc.ones (wsB (xs.take (k + 1)))) := by
            show _ = _
            rw [← HS.out, ← HQ.out, show j = 64 by omega]
          go_wp2
          go_roundw
          case rel => exact ⟨k + 1, q, _, by omega, hq, by go_num, by go_num, HE, rfl⟩
          case measure => simp [Go.RowKit.intOf]; omega
    · have HE : Hid (s = Crc.reg Crc.ones (wsB xs)) := by
        show _ = _
        rw [hse.out, List.take_of_length_le (by have := HLn.out; omega)]
      have e1 : bits .xor .u64 (s : Int) 4294967295 = ((s ^^^ 4294967295 : Nat) : Int) := u64_xor_nat s 4294967295 (by omega) (by omega)
      go_wp2
      go_ret
      exact ⟨by rw [show sumW xs = s ^^^ 4294967295 by rw [HE.out]; exact (Crc.sum_eqR _).symm]; first | rfl | rw [← e1]; first | rfl | go_num, _, rfl⟩
end Go.Proofs.YtpihhlbfpbngaaaGreatDoor
namespace Go.Proofs.YtpihhlbfpbngaaaGreatDoor
open Go.RowKit
theorem payD_zero (next : Nat) (p : List Nat) {m : Nat} (hm : m = bSize p.length - 2 - ((p.take 456).length + 7) / 8) : payD next p.length m (p.take 456) 0 = payB next p ++ [0] := by
  have h := bSize_ge p.length
  rw [Nat.min_comm, ← List.length_take] at h
  unfold payD payB
  rw [← packW_pkD, packW_len, hm, show bSize p.length - 2 - ((p.take 456).length + 7) / 8 = (bSize p.length - 3 - ((p.take 456).length + 7) / 8) + 1 by omega, List.replicate_succ']
  simp only [List.append_assoc]
theorem rp_idx {i : Nat} (hi : i ≤ 100000) : ∃ E Q : Nat, i / 8 = E ∧ 2 + E = Q ∧ ((i : Int).tdiv 8 = (E : Int) ∧ (i : Int) / 8 = (E : Int) ∧ wrap64 (E : Int) = (E : Int) ∧ IntKind.i64.wrap (E : Int) = (E : Int)) ∧ ((2 : Int) + (E : Int) = (Q : Int) ∧ wrap64 (Q : Int) = (Q : Int) ∧ IntKind.i64.wrap (Q : Int) = (Q : Int)) := by
  refine ⟨i / 8, 2 + i / 8, rfl, rfl, ⟨?_, ?_, ?_, wrapi _ (by omega)⟩, ?_, ?_, wrapi _ (by omega)⟩
  · rw [Int.tdiv_eq_ediv_of_nonneg (by omega)]; omega
  · omega
  · exact IntWalk.wrap64_in _ (by omega)
  · omega
  · exact IntWalk.wrap64_in _ (by omega)
theorem rp_val {y bt : Nat} (h : y * 256 + bt < 18446744073709551616) : IntKind.u64.wrap ((y : Int) * 256) = ((y * 256 : Nat) : Int) ∧ IntKind.u64.wrap (bt : Int) = (bt : Int) ∧ IntKind.u64.wrap (((y * 256 : Nat) : Int) + (bt : Int)) = ((y * 256 + bt : Nat) : Int) ∧ ((y * 256 : Nat) : Int) = (y : Int) * 256 ∧ ((y * 256 + bt : Nat) : Int) = (y : Int) * 256 + (bt : Int) := by
  refine ⟨?_, ?_, ?_, by omega, by omega⟩
  · rw [wraps_u64 _ (by omega) (by omega)]; omega
  · rw [wraps_u64 _ (by omega) (by omega)]
  · rw [wraps_u64 _ (by omega) (by omega)]; omega
theorem set_last (l : List Nat) (v u : Nat) : (l ++ [u]).set l.length v = l ++ [v] := by
  rw [List.set_append_right _ _ (Nat.le_refl _), Nat.sub_self]
  rfl
set_option maxRecDepth 100000 in
set_option maxHeartbeats 4000000 in
theorem refPayload_any (A : Option Addr) (n c next : Nat) (p : List Nat) (w : World) (h : Reads w w.heap.size 1 A n (u8s p)) (hp : ∀ b ∈ p, b < 256) (hn : n ≤ 2000) (hc : n ≤ c) (hnx : next < 18446744073709551616) :
    Calls Tryz.prog 21 #[.slice A n c, .int .u64 (next : Int)] w (RetPk w (payL next p)) := by
  have hl0 : p.length = n := by have := h.1; simp [u8s] at this; omega
  have HW := Lib.hid (refWords_any n (by omega))
  have HR := Lib.hid h
  have HP := Lib.hid hp
  have HL := Lib.hid hl0
  have hge := bSize_ge n
  have hle : bSize n ≤ 60 := by
    unfold bSize
    split
    · omega
    · exact (pay_le _).2
  clear h hp hl0
  obtain ⟨q, hq⟩ : ∃ q, bSize n = q := ⟨_, rfl⟩
  rw [hq] at HW hge hle
  have HQ := Lib.hid hq
  clear hq
  have hmk := makeU q (by omega)
  rw [make_uA] at hmk
  have v1 : IntKind.u64.wrap ((n : Int)) = (n : Int) := by rw [wraps_u64 _ (by omega) (by omega)]
  have v2 : IntKind.u64.wrap ((n : Int) * 4294967297) = ((n * 4294967297 : Nat) : Int) := by rw [wraps_u64 _ (by omega) (by omega)]; omega
  go_enter Tryz.func21, Tryz.ntmps21
  go_upto_region 3 with (go_at_call 63; refine (HW.out _).mono ?_; rintro e w1 ⟨rfl, hb1⟩; have HB1 := Lib.hid hb1; clear hb1)
  have hWB := HB1.out.alloc HB1.out.size (.cells (uA (List.replicate q 0)) 26)
  have hW1 : Blk (w1.alloc (.cells (uA (List.replicate q 0)) 26)) w1.heap.size 26 (uA (List.replicate q 0)) := Blk.new w1 _ _
  have HG := Lib.hid HB1.out.size
  generalize w1.heap.size = g at *
  generalize hWW : w1.alloc (.cells (uA (List.replicate q 0)) 26) = W1 at *
  have c0 : W1.cell? ⟨g, 0, none⟩ = some (.int .u64 0) := by rw [hW1.cell, uA_at (by simp; omega)]; simp
  have c1 : W1.cell? ⟨g, 1, none⟩ = some (.int .u64 0) := by rw [hW1.cell, uA_at (by simp; omega)]; simp
  have z0 : W1.frozen? ⟨g, 0, none⟩ = false := hW1.frozen 0
  have z1 : W1.frozen? ⟨g, 1, none⟩ = false := hW1.frozen 1
  go_upto_region 5 with fail
  rw [show (n : Int) * 4294967297 = ((n * 4294967297 : Nat) : Int) by omega]
  obtain ⟨K, hK⟩ : ∃ K, min n 456 = K := ⟨_, rfl⟩
  obtain ⟨P, hP⟩ : ∃ P, p.take 456 = P := ⟨_, rfl⟩
  have hPl : P.length = K := by rw [← hP, List.length_take, HL.out]; omega
  obtain ⟨m, hm⟩ : ∃ m, q - 2 - (K + 7) / 8 = m := ⟨_, rfl⟩
  have HPd : Hid (payD next n m P 0 = payB next p ++ [0]) := Lib.hid (by
    have h := payD_zero next p (m := m) (by rw [← hm, HL.out, HQ.out, hP, hPl])
    rw [HL.out, hP] at h
    exact h)
  have HK2 : Hid (Blk ((W1.setCell ⟨g, 0, none⟩ (.int .u64 (next : Int))).setCell ⟨g, 1, none⟩ (.int .u64 ((n * 4294967297 : Nat) : Int))) g 26 (uA (payD next n m P K))) := Lib.hid (by
    have h1 := (hW1.set_ 0 (.int .u64 (next : Int))).set_ 1 (.int .u64 ((n * 4294967297 : Nat) : Int))
    rw [uA_set, uA_set, set_two q _ _ (by omega)] at h1
    rw [payD_top (by omega), hPl, show (K + 7) / 8 + m = q - 2 by omega]
    exact h1)
  have HB2 : Hid (Below w.heap.size w ((W1.setCell ⟨g, 0, none⟩ (.int .u64 (next : Int))).setCell ⟨g, 1, none⟩ (.int .u64 ((n * 4294967297 : Nat) : Int)))) := Lib.hid ((hWB.setCell HG.out _).setCell HG.out _)
  generalize (W1.setCell ⟨g, 0, none⟩ (.int .u64 (next : Int))).setCell ⟨g, 1, none⟩ (.int .u64 ((n * 4294967297 : Nat) : Int)) = W2 at *
  clear c0 c1 z0 z1 hW1 hWB hWW
  have e1 : min (n : Int) 456 = (K : Int) := by omega
  go_wp2
  all_goals
    go_loopw [7] (fun i wr => ∃ k : Nat, k ≤ K ∧ i = .int .i64 ((k : Int) - 1) ∧ Hid (Blk wr g 26 (uA (payD next n m P k))) ∧ Hid (Below w.heap.size w wr)) (fun i _ => (Go.RowKit.intOf i + 1).toNat)
    case atStart => exact ⟨K, Nat.le_refl _, by go_num, HK2, HB2⟩
    case round =>
      obtain ⟨k, hk, rfl, HC, HB⟩ := hrel
      by_cases hlt : 0 < k
      · obtain ⟨i, rfl⟩ : ∃ i, k = i + 1 := ⟨k - 1, by omega⟩
        rw [show (((i + 1 : Nat) : Int) - 1) = (i : Int) by omega]
        have hiP : i < P.length := by omega
        obtain ⟨hl, b, off, hA, hbB, f0⟩ := b_facts (HR.out.below HB.out) (show i < n by omega)
        subst hA
        have hpi : p[i] = P[i] := by subst hP; rw [List.getElem_take]
        rw [hpi] at f0
        obtain ⟨hj, e0⟩ := payD_at (next := next) (n := n) (m := m) hiP
        have f1 : wr.cell? ⟨g, 2 + i / 8, none⟩ = some (.int .u64 (pkD P (i + 1) (i / 8) : Int)) := by rw [HC.out.cell, uA_at hj, e0]
        have z1 : wr.frozen? ⟨g, 2 + i / 8, none⟩ = false := HC.out.frozen _
        have hx := pkD_same hiP
        have hPP : ∀ b ∈ P, b < 256 := fun b hb => HP.out b (by rw [← hP] at hb; exact List.mem_of_mem_take hb)
        have hxl := pkD_lt hPP i (i / 8)
        have HN : Hid (Blk (wr.drew.setCell ⟨g, 2 + i / 8, none⟩ (.int .u64 ((pkD P (i + 1) (i / 8) * 256 + P[i] : Nat) : Int))) g 26 (uA (payD next n m P i))) := Lib.hid (by
          rw [payD_step hiP, ← uA_set]; exact HC.out.drew.set_ _ _)
        have HN2 : Hid (Below w.heap.size w (wr.drew.setCell ⟨g, 2 + i / 8, none⟩ (.int .u64 ((pkD P (i + 1) (i / 8) * 256 + P[i] : Nat) : Int)))) := Lib.hid (HB.out.drew.setCell HG.out _)
        rw [hx] at hxl
        clear hx e0 hj HC hbB
        generalize pkD P (i + 1) (i / 8) = y at *
        generalize P[i] = bt at *
        obtain ⟨E, Q, hE, hQ, hT, hU⟩ := rp_idx (i := i) (by omega)
        have HT := Lib.hid hT
        have HU := Lib.hid hU
        clear hT hU
        have hqd : 2 + i / 8 < q := by omega
        rw [hE, hQ] at f1 z1 HN HN2 hqd
        have hz5 : (0 : Int) ≤ (i : Int) := by omega
        have hz6 : (i : Int) < (n : Int) := by omega
        have hz7 : (0 : Int) ≤ (Q : Int) := by omega
        have hz8 : (Q : Int) < (q : Int) := by omega
        have HV := Lib.hid (rp_val hxl)
        clear hE hQ
        have z1' : wr.drew.frozen? ⟨g, Q, none⟩ = false := z1
        have f1' : wr.drew.cell? ⟨g, Q, none⟩ = some (.int .u64 (y : Int)) := f1
        obtain ⟨yy, hyy⟩ : ∃ yy, y * 256 + bt = yy := ⟨_, rfl⟩
        rw [hyy] at HN HN2
        have HYY : Hid (IntKind.u64.wrap ((y : Int) * 256 + (bt : Int)) = (yy : Int)) := Lib.hid (by
          have h1 := (rp_val hxl).2.2.1
          have h2 := (rp_val hxl).2.2.2.1
          rw [h2, hyy] at h1
          exact h1)
        clear z1 hyy hxl
        have fs : wr.drew.cell? ⟨g, Q, none⟩ = some (.int .u64 (y : Int)) ∧ wr.drew.cell? ⟨b, off + i, none⟩ = some (.int .u8 (bt : Int)) := ⟨f1, f0⟩
        clear f1 f0
        go_upto_region 8 with fail
        refine wp_region_scriptH (fun w' => w'.cell? ⟨g, Q, none⟩ = some (.int .u64 (y : Int)) ∧ w'.cell? ⟨b, off + i, none⟩ = some (.int .u8 (bt : Int))) 18 [] [(1, 0), (1, 1), (1, 2), (1, 3), (1, 4), (1, 5), (1, 6), (1, 7), (1, 8), (1, 9), (1, 10), (1, 11), (1, 12), (1, 13), (1, 14), (1, 15), (1, 16), (1, 17)] (by kernel_rfl) (by kernel_rfl) fs ?_
        refine wpScriptH_take (.slice (some ⟨g, 0, none⟩) q q) (by rfl) (by rfl) (fun w' hS => ?_) ?_
        · go_simp
        simp only [zA, zB, Act.put, zD, zE, zF]
        refine wpScriptH_take (.int .i64 (i : Int)) (by rfl) (by rfl) (fun w' hS => ?_) ?_
        · go_simp
        simp only [zA, zB, zC, Act.put, zD, zE, zF]
        refine wpScriptH_take (.int .i64 (E : Int)) (by rfl) (by rfl) (fun w' hS => ?_) ?_
        · obtain ⟨t1, t2, t3, t4⟩ := HT.out
          go_simp
        simp only [zA, zB, zC, Act.put, zD, zE, zF]
        refine wpScriptH_take (.int .i64 (Q : Int)) (by rfl) (by rfl) (fun w' hS => ?_) ?_
        · obtain ⟨e8, e9, e7⟩ := HU.out
          go_simp
        simp only [zA, zB, zC, Act.put, zD, zE, zF]
        refine wpScriptH_take (.slice (some ⟨g, 0, none⟩) q q) (by rfl) (by rfl) (fun w' hS => ?_) ?_
        · go_simp
        simp only [zA, zB, zC, Act.put, zD, zE, zF]
        refine wpScriptH_take (.int .i64 (i : Int)) (by rfl) (by rfl) (fun w' hS => ?_) ?_
        · go_simp
        simp only [zA, zB, zC, Act.put, zD, zE, zF]
        refine wpScriptH_take (.int .i64 (E : Int)) (by rfl) (by rfl) (fun w' hS => ?_) ?_
        · obtain ⟨t1, t2, t3, t4⟩ := HT.out
          go_simp
        simp only [zA, zB, zC, Act.put, zD, zE, zF]
        refine wpScriptH_take (.int .i64 (Q : Int)) (by rfl) (by rfl) (fun w' hS => ?_) ?_
        · obtain ⟨e8, e9, e7⟩ := HU.out
          go_simp
        simp only [zA, zB, zC, Act.put, zD, zE, zF]
        refine wpScriptH_take (.pointer (some ⟨g, Q, none⟩)) (by rfl) (by rfl) (fun w' hS => ?_) ?_
        · go_simp
        simp only [zA, zB, zC, Act.put, zD, zE, zF]
        refine wpScriptH_take (.int .u64 (y : Int)) (by rfl) (by rfl) (fun w' hS => ?_) ?_
        · obtain ⟨s1, s2⟩ := hS
          go_simp
        simp only [zA, zB, zC, Act.put, zD, zE, zF]
        refine wpScriptH_take (.int .u64 ((y * 256 : Nat) : Int)) (by rfl) (by rfl) (fun w' hS => ?_) ?_
        · obtain ⟨w1, w2, w3, w4, w5⟩ := HV.out
          go_simp
        simp only [zA, zB, zC, Act.put, zD, zE, zF]
        refine wpScriptH_take (.slice (some ⟨b, off, none⟩) n c) (by rfl) (by rfl) (fun w' hS => ?_) ?_
        · go_simp
        simp only [zA, zB, zC, Act.put, zD, zE, zF]
        refine wpScriptH_take (.int .i64 (i : Int)) (by rfl) (by rfl) (fun w' hS => ?_) ?_
        · go_simp
        simp only [zA, zB, zC, Act.put, zD, zE, zF]
        refine wpScriptH_take (.pointer (some ⟨b, off + i, none⟩)) (by rfl) (by rfl) (fun w' hS => ?_) ?_
        · go_simp
        simp only [zA, zB, zC, Act.put, zD, zE, zF]
        refine wpScriptH_take (.int .u8 (bt : Int)) (by rfl) (by rfl) (fun w' hS => ?_) ?_
        · obtain ⟨s1, s2⟩ := hS
          go_simp
        simp only [zA, zB, zC, Act.put, zD, zE, zF]
        refine wpScriptH_take (.int .u64 (bt : Int)) (by rfl) (by rfl) (fun w' hS => ?_) ?_
        · obtain ⟨w1, w2, w3, w4, w5⟩ := HV.out
          go_simp
        simp only [zA, zB, zC, Act.put, zD, zE, zF]
        refine wpScriptH_take (.int .u64 (yy : Int)) (by rfl) (by rfl) (fun w' hS => ?_) ?_
        · have hy := HYY.out
          go_simp
        simp only [zA, zB, zC, Act.put, zD, zE, zF]
        refine wpScriptH_take (.pointer (some ⟨g, Q, none⟩)) (by rfl) (by rfl) (fun w' hS => ?_) ?_
        · go_simp
        simp only [zA, zB, zC, Act.put, zD, zE, zF]
        show wpList _ _ _ _ _ _
        simp only [List.drop_succ_cons, List.drop_zero]
        go_wp2_with fail
        refine NoPanic.normal ?_
        clear fs z1' f1'
        go_wp2_with fail
        go_roundw
        case rel =>
          first
            | exact ⟨i, by omega, by go_num, HN, HN2⟩
            | (repeat apply Exists.intro
               refine ⟨?_, rfl⟩
               exact ⟨i, by omega, by go_num, HN, HN2⟩)
        case measure => first | (simp [Go.RowKit.intOf]; done) | (simp [Go.RowKit.intOf]; omega)
      · obtain rfl : k = 0 := by omega
        have hKb : Blk wr g 26 (uA (payB next p ++ [0])) := by
          have h := HC.out
          rw [HPd.out] at h
          exact h
        obtain ⟨j, hj⟩ : ∃ j, q = j + 1 := ⟨q - 1, by omega⟩
        have hbl : (payB next p).length = j := by rw [payB_len, HL.out, HQ.out, hj]; rfl
        have hR := uA_reads hKb
        have hl1 : (payB next p ++ [0]).length = j + 1 := by rw [List.length_append, hbl]; rfl
        rw [hl1] at hR
        have hS := reads_sub hR (k := 0) (m := j) (by omega) (by omega) (by omega)
        rw [List.drop_zero, Nat.add_zero, Nat.sub_zero, ← hbl, List.take_left, hbl] at hS
        have HW := Lib.hid (refWsum_any (some ⟨g, 0, none⟩) j q wr.heap.size (payB next p) wr hS (payB_lt hnx HP.out (by rw [HL.out]; exact hn)) (by omega))
        have HF : Hid (∀ mm, RetPk w (payL next p) (.returned (.slice (some ⟨g, 0, none⟩) q q)) ((wr.drewN mm).setCell ⟨g, j, none⟩ (.int .u64 (sumW (payB next p) : Int)))) := Lib.hid (fun mm => by
          have h2 := (hKb.drewN mm).set_ j (.int .u64 (sumW (payB next p) : Int))
          rw [uA_set, ← hbl, set_last, hbl] at h2
          have h3 := uA_reads h2
          have h4 : (payB next p ++ [sumW (payB next p)]).length = q := by rw [List.length_append, hbl, hj]; rfl
          rw [h4] at h3
          exact ⟨_, _, _, rfl, h4.symm, h3, fun ad h => by injection h with h; subst h; exact HG.out, (below_drewN HB.out mm).setCell HG.out _⟩)
        have z1 : ∀ mm, (wr.drewN mm).frozen? ⟨g, j, none⟩ = false := fun mm => (hKb.drewN mm).frozen _
        have q1 : ∀ mm, (wr.drewN mm).cell? ⟨g, j, none⟩ = some (.int .u64 0) := fun mm => by
          rw [(hKb.drewN mm).cell, uA_at (by rw [hl1]; omega), List.getElem_append_right (by omega)]
          simp
        have w1 : wrap64 ((q : Int) - 1) = (j : Int) := by rw [IntWalk.wrap64_in _ (by omega)]; omega
        have w2 : (q : Int) - 1 = (j : Int) := by omega
        have w3 : (j : Int) < (q : Int) := by omega
        have w4 : (0 : Int) ≤ (j : Int) := by omega
        have w5 : (j : Int) ≤ (q : Int) := by omega
        have hsm := sumW_lt (payB next p)
        generalize sumW (payB next p) = sm at *
        clear hKb hbl hR hl1 hS HC hj
        go_wp2_with (go_at_call 64; refine HW.out.mono ?_; rintro e w1 ⟨rfl, mm, rfl⟩; have z2 := z1 mm; have q2 := q1 mm; clear z1 q1)
        go_ret
        exact HF.out mm
end Go.Proofs.YtpihhlbfpbngaaaGreatDoor
