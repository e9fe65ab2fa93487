/- The walks and laws that the claim leans on, part 19. -/
import Derived.Test.YtnlokpakiambaaaGreatDoorJam
import Derived.Test.YtnlokpakiambaaaGreatDoorJan
set_option maxRecDepth 100000
set_option maxHeartbeats 16000000
namespace Go.Proofs.YtnlokpakiambaaaGreatDoor
open Go.Lib (hid)
section
open Go.RowKit
structure ChW (cur : Nat → Nat) (ln cl g V : Nat) (bs : Nat → BK) : Prop where
 hdr : cur (8 * ln) = hdrW cl g
 cls : cl < 5
 g0 : 0 < g
 g1 : g < 65536
 bits : cur (8 * ln + 1) = V
 v64 : V < 18446744073709551616
 zero : ∀ j, 2 ≤ j → j < 8 → cur (8 * ln + j) = 0
 inn : ∀ i, i < perC cl → (bs i).In
 good : ∀ i, i < perC cl → (bs i).good = true
 word : ∀ i, i < perC cl → cur (8 * ln + offB cl i) = (bs i).w
 bit : ∀ i, i < perC cl → bitAt V i = decide ((bs i).st ≠ 176)
def fndC (ln cl off : Nat) : Option Nat := if off < 64 * ln ∨ 64 * ln + 2048 ≤ off then none else findC cl ((off - 64 * ln) / 8)
def fndR (ln cl off : Nat) : Value := match fndC ln cl off with
 | some i => .tuple #[.int .i64 (i : Int), .bool true]
 | none => .tuple #[.int .i64 0, .bool false]
theorem fndC_some {ln cl off i : Nat} (h : fndC ln cl off = some i) : i < perC cl ∧ 64 * ln ≤ off ∧ off / 8 = 8 * ln + offB cl i + 1 := by
 unfold fndC at h
 split at h
 ·cases h
 ·obtain ⟨h1, h2⟩ := findC_some h
  refine ⟨h1, by omega, by omega⟩
section
theorem chFind_any (a : DA) (ln cl g off : Nat) (hl : ln ≤ 1000000) (hc : cl < 5) (ho : off < 18446744073709551616) (w : World) (hp : Pay w) :
  Calls Tryz.prog 161 #[chV a ln cl 0 g, .int .u64 (off : Int)] w fun e w' => e = .returned (fndR ln cl off) ∧ Below w.heap.size w w' := by
 have hb0 : Below w.heap.size w (w.alloc (.cells (chCells a ln cl g) 221)) := (Below.refl _ _).alloc (Nat.le_refl _) _
 have HB0 := hid hb0
 have HSt := hid (start_any ln hl)
 have HFd : Hid (∀ x : Nat, x ≤ 1000000000 → Calls Tryz.prog 138 #[.int .i64 (cl : Int), .int .i64 (x : Int)] (w.alloc (.cells (chCells a ln cl g) 221)) fun e w' => e = .returned (findR cl x) ∧ (w.alloc (.cells (chCells a ln cl g) 221)) = w') := hid (fun x hx => szFind_any cl x hc hx _ (hp.below hb0))
 have hq := eqMem (some ⟨a.th 0, 0, none⟩)
 clear hp hb0
 unfold chV
 unfold chCells memV at *
 by_cases h1 : off < 64 * ln
 ·have HR : Hid (fndR ln cl off = .tuple #[.int .i64 0, .bool false]) := hid (by unfold fndR fndC; rw [if_pos (.inl h1)])
  have d1 : decide ((off : Int) < ((64 * ln : Nat) : Int)) = true := decide_eq_true (by omega)
  generalize fndR ln cl off = rr at *
  have hz : 64 * ln < 9000000000 := by omega
  generalize 64 * ln = z at *
  go_enter Tryz.func161, Tryz.ntmps161
  go_wp2_with (go_at_call 209; refine (HSt.out _).mono ?_; rintro e w1 ⟨rfl, rfl⟩)
  go_ret2
  exact ⟨by rw [HR.out]; rfl, HB0.out⟩
 ·have d1 : decide ((off : Int) < ((64 * ln : Nat) : Int)) = false := decide_eq_false (by omega)
  have d1n : decide (off < 64 * ln) = false := decide_eq_false h1
  obtain ⟨y, hy⟩ : ∃ y, off - 64 * ln = y := ⟨_, rfl⟩
  have u1 : IntKind.u64.wrap ((off : Int) - ((64 * ln : Nat) : Int)) = (y : Int) := by rw [IntKind.wrap_u64]; omega
  by_cases h2 : 64 * ln + 2048 ≤ off
  ·have HR : Hid (fndR ln cl off = .tuple #[.int .i64 0, .bool false]) := hid (by unfold fndR fndC; rw [if_pos (.inr h2)])
   have d2 : decide (2048 ≤ (y : Int)) = true := decide_eq_true (by omega)
   generalize fndR ln cl off = rr at *
   have hz : 64 * ln < 9000000000 := by omega
   clear hy h1 h2
   generalize 64 * ln = z at *
   go_enter Tryz.func161, Tryz.ntmps161
   go_wp2_with (go_at_call 209; refine (HSt.out _).mono ?_; rintro e w1 ⟨rfl, rfl⟩)
   go_ret2
   exact ⟨by rw [HR.out]; rfl, HB0.out⟩
  ·have HR : Hid (fndR ln cl off = findR cl (y / 8)) := hid (by unfold fndR fndC findR; rw [if_neg (by omega), hy]; rfl)
   have d2 : decide (2048 ≤ (y : Int)) = false := decide_eq_false (by omega)
   have hy8 : y < 2048 := by omega
   have HF8 := hid (HFd.out (y / 8) (by omega))
   have u2 : (y : Int) / 8 = ((y / 8 : Nat) : Int) := by omega
   have u3 : IntKind.i64.wrap ((y / 8 : Nat) : Int) = ((y / 8 : Nat) : Int) := IntWalk.i64_in _ (by omega)
   have hyq : y / 8 < 256 := by omega
   generalize fndR ln cl off = rr at *
   have hz : 64 * ln < 9000000000 := by omega
   clear hy h1 h2 HFd
   generalize 64 * ln = z at *
   generalize y / 8 = q at *
   have HFq : Hid (∃ (k : Int) (b : Bool), findR cl q = .tuple #[.int .i64 k, .bool b]) := hid (by
    unfold findR
    cases findC cl q with
    | none => exact ⟨0, false, rfl⟩
    | some i => exact ⟨(i : Int), true, rfl⟩)
   obtain ⟨fk, fb, hfq⟩ := HFq.out
   rw [hfq] at HF8 HR
   clear hfq HFq
   go_enter Tryz.func161, Tryz.ntmps161
   go_wp2_with (first
    | (go_at_call 209; refine (HSt.out _).mono ?_; rintro e w1 ⟨rfl, rfl⟩)
    | (go_at_call 138; refine HF8.out.mono ?_; rintro e w1 ⟨rfl, rfl⟩))
   go_ret2
   exact ⟨by rw [HR.out]; rfl, HB0.out⟩
end
end
end Go.Proofs.YtnlokpakiambaaaGreatDoor
