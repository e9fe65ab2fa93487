/- The walks and laws that the claim leans on, part 53. -/
import Derived.Test.YtpihhlbfpbngaaaGreatDoorJbo
import Derived.Lib.BytesEntry
namespace Go.Proofs.YtpihhlbfpbngaaaGreatDoor
open Go.RowKit Go.Maps
section
variable {c : CX} {w w' : World} {S : Fp} {lk : Bool} {last : Option Addr} {cur : Nat → Nat} {T : Nat}
end
section
variable {c : CX} {g : Nat} {w w' : World} {S : Fp} {t : TX} {D : DataW Unit} {n : Nat} {cur : Nat → Nat} {T : Nat}
structure TxLt (c : CX) (g : Nat) (t : TX) (N : Nat) : Prop where
  r : c.x.r < N
  u : c.x.u < N
  h : c.x.h < N
  m : c.x.m < N
  gw : c.gw < N
  g : g < N
  words : t.words < N
  inner : t.inner < N
  own : t.own < N
  freed : t.freed < N
  held : t.held < N
  cover : t.cover < N
theorem TxS.high {N : Nat} {Z : Fp} (h : TxS c g w S t D n cur T) (hl : TxLt c g t N) (hc : Chg Z w w') (hz : ∀ k, Z k → N ≤ k) (hS : ∀ k, S k → ¬ Z k) : TxS c g w' S t D n cur T := by
  have hno : ∀ k, k < N → ¬ Z k := fun k hk h => by have := hz k h; omega
  refine { h with
    base := h.base.chg hc hS ⟨hno _ hl.r, hno _ hl.u, hno _ hl.h, hno _ hl.m⟩ (hno _ hl.gw) (fun k hk => ?_)
    tx := hc.blk h.tx (hno _ hl.g)
    maps := h.maps.chg hc ⟨hno _ hl.words, hno _ hl.inner, hno _ hl.own, hno _ hl.freed, hno _ hl.held, hno _ hl.cover⟩ }
  have h1 := hz k hk
  have h2 := h.base.new
  have h3 := hl.gw
  omega
theorem TxS.other {N : Nat} (h : TxS c g w S t D n cur T) (hl : TxLt c g t N) {b : Nat} (hb : N ≤ b) (hS : ¬ S b) (i : Nat) (u : Value) : TxS c g (w.setCell ⟨b, i, none⟩ u) S t D n cur T :=
  h.high (Z := fun j => j = b) hl ((Chg.refl (fun j => j = b) w).setCell (p := ⟨b, i, none⟩) (.inl rfl) u) (fun k hk => by rw [hk]; exact hb) (fun k hk e => hS (e ▸ hk))
end
end Go.Proofs.YtpihhlbfpbngaaaGreatDoor
namespace Go.Proofs.YtpihhlbfpbngaaaGreatDoor
open Go.RowKit
set_option maxRecDepth 100000 in
set_option maxHeartbeats 2000000 in
theorem equP_same (A A2 : Option Addr) (n c c2 : Nat) (l : List Nat) (w : World) (h : Reads w w.heap.size 1 A n (uCells l)) (h2 : Reads w w.heap.size 1 A2 n (uCells l)) (hn : n ≤ 1000) :
    Calls Tryz.prog 36 #[.slice A n c, .slice A2 n c2] w fun e w' => e = .returned (.bool true) ∧ Below w.heap.size w w' := by
  have HR := Lib.hid h
  have HR2 := Lib.hid h2
  have d0 : ((n : Int) != (n : Int)) = false := by rw [bne, beq_self_eq_true]; rfl
  clear h h2
  go_enter Tryz.func36, Tryz.ntmps36
  go_wp2_with fail
  go_loopw [13] (fun i wr => ∃ k : Nat, k ≤ n ∧ i = .int .i64 (k : Int) ∧ Hid (Below w.heap.size w wr)) (fun i _ => n - (Go.RowKit.intOf i).toNat)
  case atStart => exact ⟨0, Nat.zero_le _, rfl, Lib.hid (Below.refl _ _)⟩
  case round =>
    obtain ⟨k, hk, rfl, HB⟩ := hrel
    by_cases hlt : k < n
    · obtain ⟨hx1, b, off, hA, hbB, f0⟩ := u_facts (HR.out.below HB.out) hlt
      obtain ⟨hx2, b2, off2, hA2, hbB2, f2⟩ := u_facts (HR2.out.below HB.out) hlt
      have hz5 : (0 : Int) ≤ (k : Int) := by omega
      have hz6 : (k : Int) < (n : Int) := by omega
      subst hA hA2
      generalize l[k] = u at *
      have d3 : ((u : Int) != (u : Int)) = false := by rw [bne, beq_self_eq_true]; rfl
      clear hbB hbB2
      go_upto_region 6 with fail
      go_quiet (fail)
      have HB2 := Lib.hid (below_drewN HB.out nq)
      go_wp2_with fail
      go_roundw
      case rel =>
        first
          | exact ⟨k + 1, by omega, by go_num, HB2⟩
          | (repeat apply Exists.intro
             refine ⟨?_, rfl⟩
             exact ⟨k + 1, by omega, by go_num, HB2⟩)
      case measure => simp [Go.RowKit.intOf]; omega
    · obtain rfl : n = k := by omega
      go_wp2_with fail
      go_ret
      exact ⟨rfl, HB.out⟩
set_option maxRecDepth 100000 in
set_option maxHeartbeats 2000000 in
theorem equW_same (A A2 : Option Addr) (n c c2 : Nat) (l : List (Nat × Nat)) (w : World) (h : Reads w w.heap.size 2 A n (wrCells l)) (h2 : Reads w w.heap.size 2 A2 n (wrCells l)) (hn : n ≤ 1000) :
    Calls Tryz.prog 35 #[.slice A n c, .slice A2 n c2] w fun e w' => e = .returned (.bool true) ∧ Below w.heap.size w w' := by
  have HR := Lib.hid h
  have HR2 := Lib.hid h2
  have d0 : ((n : Int) != (n : Int)) = false := by rw [bne, beq_self_eq_true]; rfl
  clear h h2
  go_enter Tryz.func35, Tryz.ntmps35
  go_wp2_with fail
  go_loopw [13] (fun i wr => ∃ k : Nat, k ≤ n ∧ i = .int .i64 (k : Int) ∧ Hid (Below w.heap.size w wr)) (fun i _ => n - (Go.RowKit.intOf i).toNat)
  case atStart => exact ⟨0, Nat.zero_le _, rfl, Lib.hid (Below.refl _ _)⟩
  case round =>
    obtain ⟨k, hk, rfl, HB⟩ := hrel
    by_cases hlt : k < n
    · obtain ⟨hx1, b, off, hA, hbB, f0, f1⟩ := wr_facts (HR.out.below HB.out) hlt
      obtain ⟨hx2, b2, off2, hA2, hbB2, f2, f3⟩ := wr_facts (HR2.out.below HB.out) hlt
      have hz5 : (0 : Int) ≤ (k : Int) := by omega
      have hz6 : (k : Int) < (n : Int) := by omega
      subst hA hA2
      generalize l[k] = u at *
      obtain ⟨u1, u2⟩ := u
      clear hbB hbB2
      go_upto_region 6 with fail
      go_quiet (fail)
      have HB2 := Lib.hid (below_drewN HB.out nq)
      go_wp2_with fail
      go_roundw
      case rel =>
        first
          | exact ⟨k + 1, by omega, by go_num, HB2⟩
          | (repeat apply Exists.intro
             refine ⟨?_, rfl⟩
             exact ⟨k + 1, by omega, by go_num, HB2⟩)
      case measure => simp [Go.RowKit.intOf]; omega
    · obtain rfl : n = k := by omega
      go_wp2_with fail
      go_ret
      exact ⟨rfl, HB.out⟩
end Go.Proofs.YtpihhlbfpbngaaaGreatDoor
