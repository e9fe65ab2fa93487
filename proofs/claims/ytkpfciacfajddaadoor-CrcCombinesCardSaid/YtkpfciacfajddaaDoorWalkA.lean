/- The walks of crc.step, crc.Update, crc.Sum and of the reference's Register, Sum, Update; of awake, Cut and same. -/
import Derived.Test.YtkpfciacfajddaaDoorWords
import Derived.Test.YtkpfciacfajddaaDoorPlain
namespace Go.Proofs.YtkpfciacfajddaaDoor
open Go.RowKit

set_option maxHeartbeats 400000 in
theorem step_core (r b x i t y j u z : Nat) (w : World) (e1 : bits .xor .u32 (r : Int) (b : Int) = (x : Int)) (e2 : bits .and .u32 (x : Int) 15 = (i : Int)) (hi : i < 16)
    (hc : w.cell? ⟨0, i, none⟩ = some (.int .u32 t)) (e3 : bits .xor .u32 ((x : Int) / 16) (t : Int) = (y : Int))
    (e4 : bits .and .u32 (y : Int) 15 = (j : Int)) (hj : j < 16)
    (hd : w.cell? ⟨0, j, none⟩ = some (.int .u32 u)) (e5 : bits .xor .u32 ((y : Int) / 16) (u : Int) = (z : Int)) (hb : b < 256) :
    Calls Tryd.prog 28 #[.int .u32 r, .int .u8 b] w fun e w' => e = .returned (.int .u32 z) ∧ w = w' := by
  go_enter Tryd.func28, Tryd.ntmps28
  go_wp2
  go_ret
  exact ⟨rfl, rfl⟩

/-- The table of the program lies where it lies. -/
def Tab (w : World) : Prop := ∀ i, i < 16 → w.cell? ⟨0, i, none⟩ = some (.int .u32 ((Crc.nib.getD i 0 : Nat) : Int))
theorem Tab.keep {w w' : World} (h : Tab w) (hk : ∀ p : Addr, p.block < 1 → w'.cell? p = w.cell? p) : Tab w' :=
  fun i hi => (hk _ (by show 0 < 1; omega)).trans (h i hi)
theorem Tab.size {w : World} (h : Tab w) : 0 < w.heap.size := World.block_lt_of_cell? _ _ (h 0 (by omega))
theorem Tab.below {w w' : World} (h : Tab w) {B : Nat} (hB : 0 < B) (hb : Below B w w') : Tab w' := h.keep fun p hp => hb.cell (by omega)

theorem u32_lit15 (x : Nat) (hx : x < 4294967296) : bits .and .u32 (x : Int) 15 = ((x % 16 : Nat) : Int) := by
  have h := u32_and_nat x 15 hx (by omega)
  rw [show ((15 : Nat) : Int) = 15 from rfl] at h
  rw [h, show (15 : Nat) = 2 ^ 4 - 1 from rfl, Nat.and_two_pow_sub_one_eq_mod]
theorem nib_lt (i : Nat) (hi : i < 16) : Crc.nib.getD i 0 < 4294967296 := by
  revert i; decide
theorem half_bits (x : Nat) (hx : x < 4294967296) : bits .xor .u32 ((x : Int) / 16) ((Crc.nib.getD (x % 16) 0 : Nat) : Int) = ((Crc.half x : Nat) : Int) := by
  rw [show ((x : Int) / 16) = ((x / 16 : Nat) : Int) by omega]
  exact u32_xor_nat _ _ (by omega) (nib_lt _ (Nat.mod_lt _ (by omega)))

theorem step_any (r b : Nat) (hr : r < 4294967296) (hb : b < 256) (w : World) (ht : Tab w) :
    Calls Tryd.prog 28 #[.int .u32 r, .int .u8 b] w fun e w' => e = .returned (.int .u32 ((Crc.step r b : Nat) : Int)) ∧ w = w' := by
  have hx : r ^^^ b < 4294967296 := Crc.xor_lt hr (by omega)
  have hy := Crc.half_lt hx
  exact step_core r b (r ^^^ b) _ _ _ _ _ _ w (u32_xor_nat r b hr (by omega)) (u32_lit15 _ hx) (Nat.mod_lt _ (by omega)) (ht _ (Nat.mod_lt _ (by omega))) (half_bits _ hx)
    (u32_lit15 _ hy) (Nat.mod_lt _ (by omega)) (ht _ (Nat.mod_lt _ (by omega))) (half_bits _ hy) hb

/-- The bytes of a list as values. -/
def u8s (l : List Nat) : List Value := l.map fun (b : Nat) => Value.int .u8 (b : Int)
theorem u8s_at {l : List Nat} {k : Nat} {u : Value} (h : (u8s l)[k]? = some u) : ∃ hk : k < l.length, u = .int .u8 ((l[k] : Nat) : Int) := by
  simp only [u8s, List.getElem?_map, Option.map_eq_some_iff] at h
  obtain ⟨a, ha, rfl⟩ := h
  obtain ⟨hk, rfl⟩ := List.getElem?_eq_some_iff.1 ha
  exact ⟨hk, rfl⟩
theorem take_snoc (l : List Nat) (k : Nat) (h : k < l.length) : l.take (k + 1) = l.take k ++ [l[k]] := by
  rw [List.take_succ_eq_append_getElem h]

theorem u32_not (x : Nat) (hx : x < 4294967296) : bits .xor .u32 IntKind.u32.max (x : Int) = ((x ^^^ Crc.ones : Nat) : Int) := by
  have h := u32_xor_nat 4294967295 x (by omega) hx
  rw [show IntKind.u32.max = ((4294967295 : Nat) : Int) from rfl, h, Nat.xor_comm]; rfl

set_option maxHeartbeats 400000 in
theorem update_any (c : Nat) (hc : c < 4294967296) (A : Option Addr) (n cap B : Nat) (l : List Nat) (w : World) (hl : ∀ b ∈ l, b < 256) (hrd : Reads w B 1 A n (u8s l)) (hn : n ≤ 1000000) (ht : Tab w) :
    Calls Tryd.prog 18 #[.int .u32 c, .slice A n cap] w fun e w' => e = .returned (.int .u32 ((Crc.update c l : Nat) : Int)) ∧ w = w' := by
  have HN := Lib.hid (show l.length = n by have := hrd.1; simpa [u8s] using this)
  have HT := Lib.hid ht
  have HL := Lib.hid hl
  have HR := Lib.hid hrd
  obtain ⟨x0, hx0⟩ : ∃ x0, x0 = c ^^^ Crc.ones := ⟨_, rfl⟩
  have e0 : bits .xor .u32 IntKind.u32.max (c : Int) = (x0 : Int) := by rw [hx0]; exact u32_not c hc
  have b0 : x0 < 4294967296 := by rw [hx0]; exact Crc.xor_lt hc (by decide)
  have HX := Lib.hid hx0
  clear ht hl hrd hx0
  go_enter Tryd.func18, Tryd.ntmps18
  go_wp2
  clear e0
  go_loop [5, 12] (fun r i => ∃ k : Nat, k ≤ n ∧ i = .int .i64 k ∧ r = .int .u32 ((Crc.reg x0 (l.take k) : Nat) : Int)) (fun _ i => n - (intOf i).toNat)
  case atStart => exact ⟨0, Nat.zero_le _, rfl, rfl⟩
  case round =>
    obtain ⟨k, hk, rfl, rfl⟩ := hrel
    have hreg : Crc.reg x0 (l.take k) < 4294967296 := Crc.reg_lt b0 (fun b hb => HL.out b (List.mem_of_mem_take hb))
    by_cases hlt : k < n
    · obtain ⟨ad, u, hA, _, hu, hcell⟩ := HR.out.at_ hlt
      obtain ⟨hkl, rfl⟩ := u8s_at hu
      have HS : Hid (Crc.step (Crc.reg x0 (l.take k)) l[k] = Crc.reg x0 (l.take (k + 1))) := by
        rw [take_snoc l k hkl, Crc.reg_snoc]; rfl
      have hb : l[k] < 256 := HL.out _ (List.getElem_mem hkl)
      clear hu
      subst hA
      generalize l[k] = b at *
      generalize hr : Crc.reg x0 (l.take k) = r at *
      have HRr := Lib.hid hr
      clear hr
      go_wp2_with (go_at_call 28; refine (step_any _ _ hreg hb _ HT.out).mono ?_; rintro e w' ⟨rfl, rfl⟩)
      go_round
      case rel => exact ⟨k + 1, by omega, by go_num, by rw [HS.out]⟩
      case measure => simp [intOf]; omega
    · have hkn : k = n := by omega
      have HE : Hid (Crc.reg x0 (l.take k) ^^^ Crc.ones = Crc.update c l) := by
        show _ = _
        rw [List.take_of_length_le (by have := HN.out; omega), HX.out]; rfl
      have e9 := u32_not _ hreg
      generalize Crc.reg x0 (l.take k) ^^^ Crc.ones = z at *
      generalize Crc.reg x0 (l.take k) = r at *
      clear hkn
      go_wp2
      go_ret
      exact ⟨by rw [← HE.out]; rfl, rfl⟩

theorem odd_cast (q b p : Nat) : ((q : Int) + (b : Int) / (p : Int)) % 2 = (((q % 2 + b / p % 2) % 2 : Nat) : Int) := by
  rw [show ((b : Int) / (p : Int)) = ((b / p : Nat) : Int) from (Int.natCast_ediv b p).symm]; omega
theorem rbit_no (r b j q p : Nat) (hq : Crc.rbits r b j = q) (hp : p = 2 ^ j) (h : (((q : Int) + (b : Int) / (p : Int)) % 2 == 1) = false) : q / 2 = Crc.rbits r b (j + 1) := by
  simp only [Crc.rbits, Crc.rbit, hq, ← hp]
  rw [odd_cast] at h
  have h2 : (q % 2 + b / p % 2) % 2 ≠ 1 := by intro e; rw [e] at h; simp at h
  have h3 : (q % 2 + b / p % 2) % 2 = 0 := by omega
  rw [h3]; simp
theorem rbit_yes (r b j q p : Nat) (hq : Crc.rbits r b j = q) (hp : p = 2 ^ j) (h : (((q : Int) + (b : Int) / (p : Int)) % 2 == 1) = true) : q / 2 ^^^ Crc.poly = Crc.rbits r b (j + 1) := by
  simp only [Crc.rbits, Crc.rbit, hq, ← hp]
  rw [odd_cast] at h
  have h3 : (q % 2 + b / p % 2) % 2 = 1 := by simp at h; omega
  rw [h3]; simp
theorem poly_bits (q : Nat) (hq : q < 4294967296) : bits .xor .u32 ((q : Int) / 2) 2197175160 = ((q / 2 ^^^ Crc.poly : Nat) : Int) := by
  rw [show ((q : Int) / 2) = ((q / 2 : Nat) : Int) by omega]
  exact u32_xor_nat _ Crc.poly (by omega) (by decide)

set_option maxHeartbeats 1000000 in
theorem register_any (r0 : Nat) (h0 : r0 < 4294967296) (A : Option Addr) (n cap B : Nat) (l : List Nat) (w : World) (hl : ∀ b ∈ l, b < 256) (hrd : Reads w B 1 A n (u8s l)) (hn : n ≤ 1000000) :
    Calls Tryd.prog 27 #[.int .u32 r0, .slice A n cap] w fun e w' => e = .returned (.int .u32 ((Crc.reg r0 l : Nat) : Int)) ∧ ∃ m, w' = w.drewN m := by
  have HN := Lib.hid (show l.length = n by have := hrd.1; simpa [u8s] using this)
  have HL := Lib.hid hl
  have HR := Lib.hid hrd
  clear hl hrd
  go_enter Tryd.func27, Tryd.ntmps27
  go_wp2
  go_loopw [0, 5] (fun r i wr => ∃ k m : Nat, k ≤ n ∧ i = .int .i64 k ∧ r = .int .u32 ((Crc.reg r0 (l.take k) : Nat) : Int) ∧ wr = w.drewN m) (fun _ i _ => n - (intOf i).toNat)
  case atStart => exact ⟨0, 0, Nat.zero_le _, rfl, rfl, rfl⟩
  case round =>
    obtain ⟨k, m, hk, rfl, rfl, rfl⟩ := hrel
    have hreg : Crc.reg r0 (l.take k) < 4294967296 := Crc.reg_lt h0 (fun b hb => HL.out b (List.mem_of_mem_take hb))
    by_cases hlt : k < n
    · obtain ⟨ad, u, hA, _, hu, hcell⟩ := HR.out.at_ hlt
      obtain ⟨hkl, rfl⟩ := u8s_at hu
      have HS : Hid (Crc.step (Crc.reg r0 (l.take k)) l[k] = Crc.reg r0 (l.take (k + 1))) := by
        show _ = _
        rw [take_snoc l k hkl, Crc.reg_snoc]
      have hb : l[k] < 256 := HL.out _ (List.getElem_mem hkl)
      clear hu
      subst hA
      generalize l[k] = b at *
      generalize hr : Crc.reg r0 (l.take k) = r at *
      have HRr := Lib.hid hr
      clear hr
      go_wp2
      go_loopw [0, 6] (fun q i wr => ∃ j m : Nat, j ≤ 8 ∧ i = .int .i64 j ∧ q = .int .u32 ((Crc.rbits r b j : Nat) : Int) ∧ wr = w.drewN m) (fun _ i _ => 8 - (intOf i).toNat)
      case atStart => exact ⟨0, m, Nat.zero_le _, rfl, rfl, rfl⟩
      case round =>
        obtain ⟨j, m', hj, rfl, rfl, rfl⟩ := hrel
        have hq : Crc.rbits r b j < 4294967296 := Crc.rbits_lt hreg j
        generalize hqq : Crc.rbits r b j = q at *
        have HQ := Lib.hid hqq
        clear hqq
        by_cases hj8 : j < 8
        · obtain ⟨p, hp⟩ : ∃ p : Nat, p = 2 ^ j := ⟨_, rfl⟩
          have wb : IntKind.u32.wrap (b : Int) = (b : Int) := by rw [IntKind.wrap_u32']; omega
          have hp1 : 1 ≤ p := by rw [hp]; exact Nat.one_le_two_pow
          have hp2 : p ≤ 128 := by rw [hp]; exact Nat.pow_le_pow_right (n := 2) (by omega) (show j ≤ 7 by omega)
          have wp : IntKind.u32.wrap ((2 : Int) ^ j) = (p : Int) := by
            have e : ((2 : Int) ^ j) = ((2 ^ j : Nat) : Int) := by simp
            rw [e, ← hp, IntKind.wrap_u32']; omega
          have HP := Lib.hid hp
          clear hp
          have e5 := poly_bits q hq
          generalize hy : q / 2 ^^^ Crc.poly = y at *
          have HY := Lib.hid hy
          clear hy
          go_wp2
          go_quiet (fail)
          go_wp2
          · go_roundw
            case rel => exact ⟨j + 1, _, by omega, by go_num, by rw [← HY.out, rbit_yes r b j q p HQ.out HP.out ‹_›], rfl⟩
            case measure => simp [intOf]; omega
          · go_roundw
            case rel => exact ⟨j + 1, _, by omega, by go_num, by rw [← rbit_no r b j q p HQ.out HP.out ‹_›]; go_num, rfl⟩
            case measure => simp [intOf]; omega
        · have HE : Hid (q = Crc.reg r0 (l.take (k + 1))) := by
            show _ = _
            rw [← HS.out, ← Crc.rbits_step r b hb, ← HQ.out, show j = 8 by omega]
          go_wp2
          go_roundw
          case rel => exact ⟨k + 1, _, by omega, by go_num, by rw [← HE.out], rfl⟩
          case measure => simp [intOf]; omega
    · have HE : Hid (Crc.reg r0 (l.take k) = Crc.reg r0 l) := by
        show _ = _
        rw [List.take_of_length_le (by have := HN.out; omega)]
      go_wp2
      go_ret
      exact ⟨by rw [← HE.out]; rfl, _, rfl⟩

theorem register_of (c : Nat) (hc : c < 4294967296) (A : Option Addr) (n cap B : Nat) (l : List Nat) (w : World) (hl : ∀ b ∈ l, b < 256) (hrd : Reads w B 1 A n (u8s l)) (hn : n ≤ 1000000) :
    ∃ x g z : Nat, bits .xor .u32 IntKind.u32.max (c : Int) = (x : Int) ∧ bits .xor .u32 IntKind.u32.max (g : Int) = (z : Int) ∧ z = Crc.update c l ∧
      Calls Tryd.prog 27 #[.int .u32 (x : Int), .slice A n cap] w fun e w' => e = .returned (.int .u32 (g : Int)) ∧ ∃ m, w' = w.drewN m := by
  have b0 : c ^^^ Crc.ones < 4294967296 := Crc.xor_lt hc (by decide)
  exact ⟨_, _, _, u32_not c hc, u32_not _ (Crc.reg_lt b0 hl), rfl, register_any _ b0 A n cap B l w hl hrd hn⟩
set_option maxHeartbeats 400000 in
theorem refUpdate_any (c : Nat) (hc : c < 4294967296) (A : Option Addr) (n cap B : Nat) (l : List Nat) (w : World) (hl : ∀ b ∈ l, b < 256) (hrd : Reads w B 1 A n (u8s l)) (hn : n ≤ 1000000) :
    Calls Tryd.prog 19 #[.int .u32 c, .slice A n cap] w fun e w' => e = .returned (.int .u32 ((Crc.update c l : Nat) : Int)) ∧ ∃ m, w' = w.drewN m := by
  obtain ⟨x, g, z, e0, e1, hz, hC⟩ := register_of c hc A n cap B l w hl hrd hn
  have HC := Lib.hid hC
  have HE := Lib.hid hz
  clear hl hrd hC hz
  have hs : IntKind.u32.signed = false := rfl
  go_enter Tryd.func19, Tryd.ntmps19
  go_wp2_with (go_at_call 27; refine HC.out.mono ?_; rintro e w' ⟨rfl, m, rfl⟩)
  go_ret
  exact ⟨by rw [← HE.out]; rfl, _, rfl⟩
theorem register_ones (A : Option Addr) (n cap B : Nat) (l : List Nat) (w : World) (hl : ∀ b ∈ l, b < 256) (hrd : Reads w B 1 A n (u8s l)) (hn : n ≤ 1000000) :
    ∃ g z : Nat, bits .xor .u32 IntKind.u32.max (g : Int) = (z : Int) ∧ z = Crc.sum l ∧ Calls Tryd.prog 27 #[.int .u32 4294967295, .slice A n cap] w fun e w' => e = .returned (.int .u32 (g : Int)) ∧ ∃ m, w' = w.drewN m := by
  have b0 : (4294967295 : Nat) < 4294967296 := by omega
  exact ⟨_, _, u32_not _ (Crc.reg_lt b0 hl), Crc.sum_eq l, register_any 4294967295 b0 A n cap B l w hl hrd hn⟩
set_option maxHeartbeats 400000 in
theorem refSum_any (A : Option Addr) (n cap B : Nat) (l : List Nat) (w : World) (hl : ∀ b ∈ l, b < 256) (hrd : Reads w B 1 A n (u8s l)) (hn : n ≤ 1000000) :
    Calls Tryd.prog 16 #[.slice A n cap] w fun e w' => e = .returned (.int .u32 ((Crc.sum l : Nat) : Int)) ∧ ∃ m, w' = w.drewN m := by
  obtain ⟨g, z, e1, hz, hC⟩ := register_ones A n cap B l w hl hrd hn
  have HC := Lib.hid hC
  have HE := Lib.hid hz
  clear hl hrd hC hz
  go_enter Tryd.func16, Tryd.ntmps16
  go_wp2_with (go_at_call 27; refine HC.out.mono ?_; rintro e w' ⟨rfl, m, rfl⟩)
  go_ret
  exact ⟨by rw [← HE.out]; rfl, _, rfl⟩
set_option maxHeartbeats 400000 in
theorem sum_any (A : Option Addr) (n cap B : Nat) (l : List Nat) (w : World) (hl : ∀ b ∈ l, b < 256) (hrd : Reads w B 1 A n (u8s l)) (hn : n ≤ 1000000) (ht : Tab w) :
    Calls Tryd.prog 15 #[.slice A n cap] w fun e w' => e = .returned (.int .u32 ((Crc.sum l : Nat) : Int)) ∧ w = w' := by
  have HL := Lib.hid hl
  have HR := Lib.hid hrd
  have HT := Lib.hid ht
  clear hl hrd ht
  go_enter Tryd.func15, Tryd.ntmps15
  have h := update_any 0 (by omega) A n cap B l w HL.out HR.out hn HT.out
  rw [show ((0 : Nat) : Int) = 0 from rfl] at h
  have HC := Lib.hid h
  clear h
  go_wp2_with (go_at_call 18; refine HC.out.mono ?_; rintro e w' ⟨rfl, rfl⟩)
  go_ret
  exact ⟨rfl, rfl⟩
end Go.Proofs.YtkpfciacfajddaaDoor
