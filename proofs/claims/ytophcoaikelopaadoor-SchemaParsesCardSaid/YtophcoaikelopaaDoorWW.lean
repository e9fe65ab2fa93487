/- Walks: the reference's reader: get, read. -/
import Derived.Test.YtophcoaikelopaaDoorPX
import Derived.Test.YtophcoaikelopaaDoorWV
namespace Go.Proofs.YtophcoaikelopaaDoor
open Go.RowKit
attribute [local go_sem ↓] Go.wp_at_zero Go.wp_at_succ

/-- What the reference's reader leaves: a short read keeps the bytes. -/
def gtS (n : Nat) (s : RS) : RS := if n ≤ s.l.length then ⟨s.l.drop n, s.e⟩ else ⟨s.l, true⟩
def GSt (w : World) (B rb : Nat) (s : RS) : Prop :=
  ∃ X m cx, Blk w rb 100 #[.slice X m cx, .bool s.e] ∧ Reads w B 1 X m (bv s.l) ∧ m ≤ cx ∧ cx ≤ 9223372036854775807 ∧ B ≤ rb
def RetGk (w : World) (B rb n : Nat) (s : RS) (e' : Ending) (w' : World) : Prop :=
  ∃ Y cy, e' = .returned (.slice Y n cy) ∧ n ≤ cy ∧ Reads w' w'.heap.size 1 Y n (bv (rdB n s)) ∧ GSt w' B rb (gtS n s) ∧ w.grownBy w' (some rb)
set_option maxRecDepth 100000 in
set_option maxHeartbeats 1000000 in
theorem get_any (B rb n : Nat) (i : Int) (hi : i = n) (s : RS) (w : World) (h : GSt w B rb s) (hn : n ≤ 255) :
    Calls Tryd.prog 57 #[.pointer (some ⟨rb, 0, none⟩), .int .i64 i] w (RetGk w B rb n s) := by
  subst hi
  obtain ⟨X, m, cx, hB, hr, hm, hc, hBr⟩ := h
  have hl : s.l.length = m := by have := hr.1; rw [bv_len] at this; omega
  have c0 : w.cell? ⟨rb, 0, none⟩ = some (.slice X m cx) := hB.cell 0
  have c1 : w.cell? ⟨rb, 1, none⟩ = some (.bool s.e) := hB.cell 1
  have z0 := hB.frozen 0
  have z1 := hB.frozen 1
  have HL := Lib.hid hl
  have HB := Lib.hid hB
  have HR := Lib.hid hr
  have hlt := hB.lt
  clear hl hB hr
  by_cases hle : n ≤ m
  · have h1 : ¬ (m : Int) < (n : Int) := by omega
    have HB1 := Lib.hid (show rdB n s = s.l.take n by unfold rdB; rw [if_pos (by rw [HL.out]; exact hle)])
    have HS1 := Lib.hid (show gtS n s = ⟨s.l.drop n, s.e⟩ by unfold gtS; rw [if_pos (by rw [HL.out]; exact hle)])
    have HC := Lib.hid (HR.out.cut1 hle hm)
    have HT := Lib.hid (HR.out.take1 n hle)
    by_cases hcn : cx = n
    · have HCN := Lib.hid hcn
      rw [if_pos hcn] at HC
      subst hcn
      go_enter Tryd.func57, Tryd.ntmps57
      go_wp2
      go_ret
      refine ⟨X, cx, rfl, Nat.le_refl _, ?_, ?_, only_at _⟩
      · rw [HB1.out]
        exact (HT.out.setCell (p := ⟨rb, 0, none⟩) hBr _).more (by simp; omega)
      · rw [HS1.out]
        have hz : m - cx = 0 := by omega
        have hC := HC.out
        rw [hz] at hC
        exact ⟨X, 0, 0, by simpa using HB.out.set_ 0 (.slice X 0 0), hC.setCell (p := ⟨rb, 0, none⟩) hBr _, by omega, by omega, hBr⟩
    · rw [if_neg hcn] at HC
      go_enter Tryd.func57, Tryd.ntmps57
      go_wp2
      go_ret
      refine ⟨X, cx, rfl, by omega, ?_, ?_, only_at _⟩
      · rw [HB1.out]
        exact (HT.out.setCell (p := ⟨rb, 0, none⟩) hBr _).more (by simp; omega)
      · rw [HS1.out]
        exact ⟨X.map (·.add n), m - n, cx - n, by simpa using HB.out.set_ 0 (.slice (X.map (·.add n)) (m - n) (cx - n)), HC.out.setCell (p := ⟨rb, 0, none⟩) hBr _, by omega, by omega, hBr⟩
  · have h1 : (m : Int) < (n : Int) := by omega
    have HB1 := Lib.hid (show rdB n s = List.replicate n 0 by unfold rdB; rw [if_neg (by rw [HL.out]; exact hle)])
    have HS1 := Lib.hid (show gtS n s = ⟨s.l, true⟩ by unfold gtS; rw [if_neg (by rw [HL.out]; exact hle)])
    have hmk := fun W => make_bytes n (by omega) W
    go_enter Tryd.func57, Tryd.ntmps57
    go_wp2
    go_ret
    refine ⟨_, n, rfl, Nat.le_refl _, ?_, ?_, only_alloc (only_at _) _⟩
    · rw [HB1.out]
      have := list_reads (w.setCell ⟨rb, 1, none⟩ (.bool true)) (List.replicate n 0) _ rfl
      rw [List.length_replicate, show (w.setCell ⟨rb, 1, none⟩ (.bool true)).heap.size = w.heap.size by simp] at this
      exact this.more (by rw [World.size_alloc]; simp)
    · rw [HS1.out]
      exact ⟨X, m, cx, by simpa using (HB.out.set_ 1 (.bool true)).alloc _, ((HR.out.setCell (p := ⟨rb, 1, none⟩) hBr _).alloc (by simp; omega) _), hm, hc, hBr⟩
/-- The value of the first j bytes. -/
def pv (l : List UInt8) : Nat → Nat
  | 0 => 0
  | j + 1 => pv l j + (l.getD j 0).toNat * 256 ^ j
theorem pv_lt (l : List UInt8) : ∀ j, pv l j < 256 ^ j
  | 0 => by simp [pv]
  | j + 1 => by
    have h := pv_lt l j
    have h2 := (l.getD j 0).toNat_lt
    rw [pv, Nat.pow_succ]
    have : (l.getD j 0).toNat * 256 ^ j ≤ 255 * 256 ^ j := Nat.mul_le_mul_right _ (by omega)
    omega
def RetG (w : World) (B rb : Nat) (v : Value) (s : RS) (e' : Ending) (w' : World) : Prop := e' = .returned v ∧ GSt w' B rb s ∧ w.grownBy w' (some rb)
set_option maxRecDepth 100000 in
set_option maxHeartbeats 1000000 in
theorem read_any (B rb n : Nat) (i : Int) (hi : i = n) (hn : 1 ≤ n) (hn4 : n ≤ 4) (s : RS) (w : World) (h : GSt w B rb s) :
    Calls Tryd.prog 56 #[.pointer (some ⟨rb, 0, none⟩), .int .i64 i] w (RetG w B rb (.int .u64 (pv (rdB n s) n : Int)) (gtS n s)) := by
  subst hi
  have HT := Lib.hid (get_any B rb n n rfl s w h (by omega))
  have hlen := rdB_len n s
  clear h
  go_enter Tryd.func56, Tryd.ntmps56
  go_wp2_with (go_at_call 57; refine HT.out.mono ?_; rintro e w1 ⟨Y, cy, rfl, hcy, hr, hs, hg⟩; obtain ⟨b1, off, rfl, hb1, hcell⟩ := hr.plain (by omega) (by omega); have HC := Lib.hid hcell; have HS := Lib.hid hs; have HG := Lib.hid hg; clear hr hs hg hcell)
  go_loopw [5, 12] (fun y i wr => wr = w1 ∧ ∃ j : Nat, j ≤ n ∧ i = .int .i64 j ∧ y = .int .u64 (pv (rdB n s) j : Int)) (fun _ i _ => n - (intOf i).toNat)
  case atStart => exact ⟨rfl, 0, Nat.zero_le _, rfl, rfl⟩
  case round =>
    obtain ⟨rfl, j, hj, rfl, rfl⟩ := hrel
    by_cases hlt : j < n
    · have hcj := HC.out j _ (bv_at (rdB n s) j (by omega))
      have HP := Lib.hid (show pv (rdB n s) (j + 1) = pv (rdB n s) j + ((rdB n s).getD j 0).toNat * 256 ^ j from rfl)
      have hb := ((rdB n s).getD j 0).toNat_lt
      have hpl := pv_lt (rdB n s) j
      generalize ((rdB n s).getD j 0).toNat = b at *
      generalize pv (rdB n s) j = p1 at *
      have h4 : j = 0 ∨ j = 1 ∨ j = 2 ∨ j = 3 := by omega
      rcases h4 with rfl | rfl | rfl | rfl
      · simp only [Nat.add_zero, Nat.zero_add, Nat.reducePow, Nat.mul_one] at hcj hpl HP
        go_wp2
        go_roundw
        case rel =>
          refine ⟨trivial, 1, hlt, rfl, ?_⟩
          rw [HP.out]
          congr 1
        case measure => simp [intOf]; omega
      · simp only [Nat.reduceAdd, Nat.reducePow] at hcj hpl HP
        go_wp2
        go_roundw
        case rel =>
          refine ⟨trivial, 2, hlt, rfl, ?_⟩
          rw [HP.out]
          congr 1
        case measure => simp [intOf]; omega
      · simp only [Nat.reduceAdd, Nat.reducePow] at hcj hpl HP
        go_wp2
        go_roundw
        case rel =>
          refine ⟨trivial, 3, hlt, rfl, ?_⟩
          rw [HP.out]
          congr 1
        case measure => simp [intOf]; omega
      · simp only [Nat.reduceAdd, Nat.reducePow] at hcj hpl HP
        go_wp2
        go_roundw
        case rel =>
          refine ⟨trivial, 4, hlt, rfl, ?_⟩
          rw [HP.out]
          congr 1
        case measure => simp [intOf]; omega
    · obtain rfl : n = j := by omega
      go_wp2
      go_ret
      exact ⟨rfl, HS.out, HG.out⟩
end Go.Proofs.YtophcoaikelopaaDoor
