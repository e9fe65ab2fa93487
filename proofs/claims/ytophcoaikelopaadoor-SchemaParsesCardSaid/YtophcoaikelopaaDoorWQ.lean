/- Walks: the program's reader of a default. -/
import Derived.Test.YtophcoaikelopaaDoorWP
import Derived.Test.YtophcoaikelopaaDoorWB
import Derived.StillTailTactics
namespace Go.Proofs.YtophcoaikelopaaDoor
open Go.RowKit

section
variable {w w' : World} {B rb : Nat} {s : RS}
theorem RSt.lt (h : RSt w B rb s) : rb < w.heap.size := by obtain ⟨X, m, cx, hB, _⟩ := h; exact hB.lt
theorem RSt.under (h : RSt w B rb s) : B ≤ rb := by obtain ⟨X, m, cx, _, _, _, _, hb⟩ := h; exact hb
theorem RSt.alloc (h : RSt w B rb s) (o : Obj) : RSt (w.alloc o) B rb s := by
  obtain ⟨X, m, cx, hB, hr, h1, h2, h3⟩ := h
  exact ⟨X, m, cx, hB.alloc o, hr.alloc (by have := hB.lt; omega) o, h1, h2, h3⟩
theorem RSt.drew (h : RSt w B rb s) : RSt w.drew B rb s := h
theorem RSt.drewN (h : RSt w B rb s) (n : Nat) : RSt (w.drewN n) B rb s := h
theorem RSt.far (h : RSt w B rb s) {p : Addr} (hp : rb ≠ p.block) (hB' : B ≤ p.block) (u : Value) : RSt (w.setCell p u) B rb s := by
  obtain ⟨X, m, cx, hB, hr, h1, h2, h3⟩ := h
  exact ⟨X, m, cx, hB.far hp u, hr.setCell hB' u, h1, h2, h3⟩
theorem RSt.grown (h : RSt w B rb s) {row : Option Nat} (hg : w.grownBy w' row) (hr' : ∀ g, row = some g → B ≤ g ∧ rb ≠ g) : RSt w' B rb s := by
  obtain ⟨X, m, cx, hB, hr, h1, h2, h3⟩ := h
  refine ⟨X, m, cx, hB.grown hg (fun e => (hr' rb e.symm).2 rfl), hr.grown hg (by have := hB.lt; omega) (fun g hg => (hr' g hg).1), h1, h2, h3⟩
theorem RSt.below (h : RSt w B rb s) (hb : Below w.heap.size w w') : RSt w' B rb s := h.grown (only_of_below hb none) (fun _ h => by cases h)
end
/-- A signed number of four bytes. -/
def sg4 (u : Nat) : Int := if u < 2147483648 then (u : Int) else (u : Int) - 4294967296
def int4 (l : List UInt8) : Int := sg4 ((l.getD 0 0).toNat + 256 * (l.getD 1 0).toNat + 65536 * (l.getD 2 0).toNat + 16777216 * (l.getD 3 0).toNat)
theorem four (k0 k1 k2 k3 : Nat) (h0 : k0 < 256) (h1 : k1 < 256) (h2 : k2 < 256) (h3 : k3 < 256) :
    wrap64 (wrap32 (bits .or .u32 (bits .or .u32 (bits .or .u32 (k0 : Int) ((k1 : Int) * 256)) ((k2 : Int) * 65536)) ((k3 : Int) * 16777216))) = sg4 (k0 + 256 * k1 + 65536 * k2 + 16777216 * k3) := by
  rw [show (k1 : Int) * 256 = ((256 * k1 : Nat) : Int) by omega, show (k2 : Int) * 65536 = ((65536 * k2 : Nat) : Int) by omega, show (k3 : Int) * 16777216 = ((16777216 * k3 : Nat) : Int) by omega]
  rw [u32_or_nat k0 (256 * k1) (by omega) (by omega), show k0 ||| 256 * k1 = k0 + 256 * k1 from or_add 8 k1 k0 h0]
  rw [u32_or_nat (k0 + 256 * k1) (65536 * k2) (by omega) (by omega), show (k0 + 256 * k1) ||| 65536 * k2 = k0 + 256 * k1 + 65536 * k2 from or_add 16 k2 _ (by omega)]
  rw [u32_or_nat (k0 + 256 * k1 + 65536 * k2) (16777216 * k3) (by omega) (by omega), show (k0 + 256 * k1 + 65536 * k2) ||| 16777216 * k3 = k0 + 256 * k1 + 65536 * k2 + 16777216 * k3 from or_add 24 k3 _ (by omega)]
  generalize hu : k0 + 256 * k1 + 65536 * k2 + 16777216 * k3 = u
  have : u < 4294967296 := by omega
  unfold wrap64 wrap32 sg4
  split <;> omega
def noText : ByteArray := ⟨#[]⟩
/-- A default, as it is read. -/
def rdVal (ty : Nat) (s : RS) : Val :=
  if nb s = 0 then ⟨ty, true, 0, noText, false⟩
  else if ty = 1 then ⟨ty, false, int4 (rdB 4 (rdS 1 s)), noText, false⟩
  else if ty = 2 then ⟨ty, false, 0, ⟨(rdB (nb (rdS 1 s)) (rdS 1 (rdS 1 s))).toArray⟩, false⟩
  else ⟨ty, false, 0, noText, nb (rdS 1 s) != 0⟩
def rdValS (ty : Nat) (s : RS) : RS :=
  if nb s = 0 then rdS 1 s
  else if ty = 1 then rdS 4 (rdS 1 s)
  else if ty = 2 then rdS (nb (rdS 1 s)) (rdS 1 (rdS 1 s))
  else rdS 1 (rdS 1 s)
set_option maxRecDepth 100000 in
set_option maxHeartbeats 2000000 in
theorem value_null (B rb ty : Nat) (s : RS) (w : World) (h : RSt w B rb s) (h0 : nb s = 0) :
    Calls Tryd.prog 54 #[.pointer (some ⟨rb, 0, none⟩), .int .u8 (ty : Int)] w (RetN w B rb (rdVal ty s).val (rdValS ty s)) := by
  have HN := fun o o' => Lib.hid (number_any B rb s ((w.alloc o).alloc o') ((h.alloc o).alloc o'))
  have hlt := h.lt
  have hund := h.under
  rw [show rdVal ty s = ⟨ty, true, 0, noText, false⟩ by unfold rdVal; rw [if_pos h0], show rdValS ty s = rdS 1 s by unfold rdValS; rw [if_pos h0]]
  unfold noText
  have HNE0 : Hid (some w.heap.size ≠ some rb) := fun e => by injection e; omega
  have HNE1 : Hid (some (w.heap.size + 1) ≠ some rb) := fun e => by injection e; omega
  rw [h0] at HN
  clear h0
  clear h
  go_enter Tryd.func54, Tryd.ntmps54
  go_wp2_with fail
  refine (HN _ _).out.mono ?_
  rintro e w1 ⟨rfl, hs, hg⟩
  have hR := ((Blk.new w 30 #[.int .u8 0, .bool false, .int .i64 0, .string ⟨#[]⟩, .bool false]).alloc _).grown hg HNE0.out
  have hV := (Blk.new1 w _ 30 #[.int .u8 (ty : Int), .bool false, .int .i64 0, .string ⟨#[]⟩, .bool false]).grown hg HNE1.out
  have HG := Lib.hid ((only_alloc (only_alloc (World.grownBy.refl w (some rb)) _) _).trans hg)
  clear hg
  have HS := Lib.hid hs
  clear hs
  have r0 : w1.cell? ⟨w.heap.size, 0, none⟩ = some (.int .u8 0) := hR.cell 0
  have rz0 := hR.frozen 0
  have v0 : w1.cell? ⟨w.heap.size + 1, 0, none⟩ = some (.int .u8 (ty : Int)) := hV.cell 0
  have vz0 := hV.frozen 0
  have r1 : w1.cell? ⟨w.heap.size, 1, none⟩ = some (.bool false) := hR.cell 1
  have rz1 := hR.frozen 1
  have v1 : w1.cell? ⟨w.heap.size + 1, 1, none⟩ = some (.bool false) := hV.cell 1
  have vz1 := hV.frozen 1
  have r2 : w1.cell? ⟨w.heap.size, 2, none⟩ = some (.int .i64 0) := hR.cell 2
  have rz2 := hR.frozen 2
  have v2 : w1.cell? ⟨w.heap.size + 1, 2, none⟩ = some (.int .i64 0) := hV.cell 2
  have vz2 := hV.frozen 2
  have r3 : w1.cell? ⟨w.heap.size, 3, none⟩ = some (.string ⟨#[]⟩) := hR.cell 3
  have rz3 := hR.frozen 3
  have v3 : w1.cell? ⟨w.heap.size + 1, 3, none⟩ = some (.string ⟨#[]⟩) := hV.cell 3
  have vz3 := hV.frozen 3
  have r4 : w1.cell? ⟨w.heap.size, 4, none⟩ = some (.bool false) := hR.cell 4
  have rz4 := hR.frozen 4
  have v4 : w1.cell? ⟨w.heap.size + 1, 4, none⟩ = some (.bool false) := hV.cell 4
  have vz4 := hV.frozen 4
  clear hR hV
  go_wp2
  refine bodyPost_ret (v := .agg #[.int .u8 (ty : Int), .bool true, .int .i64 0, .string ⟨#[]⟩, .bool false]) (by simp [results, Tryd.results54, go_sem, r0, r1, r2, r3, r4]) rfl ⟨rfl, ?_, ?_⟩
  · iterate 6 (refine RSt.far ?_ (by simp; omega) (by simp; omega) _)
    exact HS.out
  · iterate 6 (refine only_setCell ?_ (.inr (by simp)) _)
    exact HG.out
set_option maxRecDepth 100000 in
set_option maxHeartbeats 2000000 in
theorem value_text (B rb ty : Nat) (s : RS) (w : World) (h : RSt w B rb s) (h0 : nb s ≠ 0) (h2 : ty = 2) :
    Calls Tryd.prog 54 #[.pointer (some ⟨rb, 0, none⟩), .int .u8 (ty : Int)] w (RetN w B rb (rdVal ty s).val (rdValS ty s)) := by
  have HN := fun o o' => Lib.hid (number_any B rb s ((w.alloc o).alloc o') ((h.alloc o).alloc o'))
  have hlt := h.lt
  have hund := h.under
  rw [show rdVal ty s = ⟨ty, false, 0, ⟨(rdB (nb (rdS 1 s)) (rdS 1 (rdS 1 s))).toArray⟩, false⟩ by unfold rdVal; rw [if_neg h0, if_neg (by omega), if_pos h2], show rdValS ty s = rdS (nb (rdS 1 s)) (rdS 1 (rdS 1 s)) by unfold rdValS; rw [if_neg h0, if_neg (by omega), if_pos h2]]
  have HNE0 : Hid (some w.heap.size ≠ some rb) := fun e => by injection e; omega
  have HNE1 : Hid (some (w.heap.size + 1) ≠ some rb) := fun e => by injection e; omega
  have e0 : ((nb s : Int) == 0) = false := by rw [beq_eq_false_iff_ne]; omega
  have e1 : ((ty : Int) == 1) = false := by rw [beq_eq_false_iff_ne]; omega
  have e2 : ((ty : Int) == 2) = true := by rw [beq_iff_eq]; omega
  clear h0 h2
  generalize nb s = k at *
  clear h
  go_enter Tryd.func54, Tryd.ntmps54
  go_wp2_with fail
  refine (HN _ _).out.mono ?_
  rintro e w1 ⟨rfl, hs, hg⟩
  have hR := ((Blk.new w 30 #[.int .u8 0, .bool false, .int .i64 0, .string ⟨#[]⟩, .bool false]).alloc _).grown hg HNE0.out
  have hV := (Blk.new1 w _ 30 #[.int .u8 (ty : Int), .bool false, .int .i64 0, .string ⟨#[]⟩, .bool false]).grown hg HNE1.out
  have HG := Lib.hid ((only_alloc (only_alloc (World.grownBy.refl w (some rb)) _) _).trans hg)
  clear hg
  have HT := Lib.hid (text_any B rb (rdS 1 s) w1 hs)
  generalize (rdB (nb (rdS 1 s)) (rdS 1 (rdS 1 s))).toArray = tx at *
  clear hs
  go_wp2_with fail
  refine HT.out.mono ?_
  rintro e w2 ⟨rfl, hs, hg⟩
  have hR2 := hR.grown hg HNE0.out
  have hV2 := hV.grown hg HNE1.out
  have HG2 := Lib.hid (HG.out.trans hg)
  have HS := Lib.hid hs
  clear hs hg hR hV
  have r0 : w2.cell? ⟨w.heap.size, 0, none⟩ = some (.int .u8 0) := hR2.cell 0
  have rz0 := hR2.frozen 0
  have v0 : w2.cell? ⟨w.heap.size + 1, 0, none⟩ = some (.int .u8 (ty : Int)) := hV2.cell 0
  have vz0 := hV2.frozen 0
  have r1 : w2.cell? ⟨w.heap.size, 1, none⟩ = some (.bool false) := hR2.cell 1
  have rz1 := hR2.frozen 1
  have v1 : w2.cell? ⟨w.heap.size + 1, 1, none⟩ = some (.bool false) := hV2.cell 1
  have vz1 := hV2.frozen 1
  have r2 : w2.cell? ⟨w.heap.size, 2, none⟩ = some (.int .i64 0) := hR2.cell 2
  have rz2 := hR2.frozen 2
  have v2 : w2.cell? ⟨w.heap.size + 1, 2, none⟩ = some (.int .i64 0) := hV2.cell 2
  have vz2 := hV2.frozen 2
  have r3 : w2.cell? ⟨w.heap.size, 3, none⟩ = some (.string ⟨#[]⟩) := hR2.cell 3
  have rz3 := hR2.frozen 3
  have v3 : w2.cell? ⟨w.heap.size + 1, 3, none⟩ = some (.string ⟨#[]⟩) := hV2.cell 3
  have vz3 := hV2.frozen 3
  have r4 : w2.cell? ⟨w.heap.size, 4, none⟩ = some (.bool false) := hR2.cell 4
  have rz4 := hR2.frozen 4
  have v4 : w2.cell? ⟨w.heap.size + 1, 4, none⟩ = some (.bool false) := hV2.cell 4
  have vz4 := hV2.frozen 4
  clear hR2 hV2
  go_wp2
  refine bodyPost_ret (v := .agg #[.int .u8 (ty : Int), .bool false, .int .i64 0, .string ⟨tx⟩, .bool false]) (by simp [results, Tryd.results54, go_sem, r0, r1, r2, r3, r4]) rfl ⟨rfl, ?_, ?_⟩
  · iterate 6 (refine RSt.far ?_ (by simp; omega) (by simp; omega) _)
    exact HS.out
  · iterate 6 (refine only_setCell ?_ (.inr (by simp)) _)
    exact HG2.out
set_option maxRecDepth 100000 in
set_option maxHeartbeats 2000000 in
theorem value_bool (B rb ty : Nat) (s : RS) (w : World) (h : RSt w B rb s) (h0 : nb s ≠ 0) (h1 : ty ≠ 1) (h2 : ty ≠ 2) :
    Calls Tryd.prog 54 #[.pointer (some ⟨rb, 0, none⟩), .int .u8 (ty : Int)] w (RetN w B rb (rdVal ty s).val (rdValS ty s)) := by
  have HN := fun o o' => Lib.hid (number_any B rb s ((w.alloc o).alloc o') ((h.alloc o).alloc o'))
  have hlt := h.lt
  have hund := h.under
  rw [show rdVal ty s = ⟨ty, false, 0, noText, nb (rdS 1 s) != 0⟩ by unfold rdVal; rw [if_neg h0, if_neg h1, if_neg h2], show rdValS ty s = rdS 1 (rdS 1 s) by unfold rdValS; rw [if_neg h0, if_neg h1, if_neg h2]]
  unfold noText
  have HNE0 : Hid (some w.heap.size ≠ some rb) := fun e => by injection e; omega
  have HNE1 : Hid (some (w.heap.size + 1) ≠ some rb) := fun e => by injection e; omega
  have e0 : ((nb s : Int) == 0) = false := by rw [beq_eq_false_iff_ne]; omega
  have e1 : ((ty : Int) == 1) = false := by rw [beq_eq_false_iff_ne]; omega
  have e2 : ((ty : Int) == 2) = false := by rw [beq_eq_false_iff_ne]; omega
  clear h0 h1 h2
  generalize nb s = k at *
  clear h
  go_enter Tryd.func54, Tryd.ntmps54
  go_wp2_with fail
  refine (HN _ _).out.mono ?_
  rintro e w1 ⟨rfl, hs, hg⟩
  have hR := ((Blk.new w 30 #[.int .u8 0, .bool false, .int .i64 0, .string ⟨#[]⟩, .bool false]).alloc _).grown hg HNE0.out
  have hV := (Blk.new1 w _ 30 #[.int .u8 (ty : Int), .bool false, .int .i64 0, .string ⟨#[]⟩, .bool false]).grown hg HNE1.out
  have HG := Lib.hid ((only_alloc (only_alloc (World.grownBy.refl w (some rb)) _) _).trans hg)
  clear hg
  have HT := Lib.hid (number_any B rb (rdS 1 s) w1 hs)
  have HBB : Hid ((((nb (rdS 1 s) : Nat) : Int) != 0) = (nb (rdS 1 s) != 0)) := show _ = _ by
    generalize nb (rdS 1 s) = q
    cases q <;> rfl
  generalize nb (rdS 1 s) = q at *
  generalize hbq : (q != 0) = bq at *
  have HBQ := Lib.hid hbq
  have hq : ((q : Int) != 0) = bq := HBB.out
  clear hs hbq HBB
  go_wp2_with fail
  refine HT.out.mono ?_
  rintro e w2 ⟨rfl, hs, hg⟩
  have hR2 := hR.grown hg HNE0.out
  have hV2 := hV.grown hg HNE1.out
  have HG2 := Lib.hid (HG.out.trans hg)
  have HS := Lib.hid hs
  clear hs hg hR hV
  have r0 : w2.cell? ⟨w.heap.size, 0, none⟩ = some (.int .u8 0) := hR2.cell 0
  have rz0 := hR2.frozen 0
  have v0 : w2.cell? ⟨w.heap.size + 1, 0, none⟩ = some (.int .u8 (ty : Int)) := hV2.cell 0
  have vz0 := hV2.frozen 0
  have r1 : w2.cell? ⟨w.heap.size, 1, none⟩ = some (.bool false) := hR2.cell 1
  have rz1 := hR2.frozen 1
  have v1 : w2.cell? ⟨w.heap.size + 1, 1, none⟩ = some (.bool false) := hV2.cell 1
  have vz1 := hV2.frozen 1
  have r2 : w2.cell? ⟨w.heap.size, 2, none⟩ = some (.int .i64 0) := hR2.cell 2
  have rz2 := hR2.frozen 2
  have v2 : w2.cell? ⟨w.heap.size + 1, 2, none⟩ = some (.int .i64 0) := hV2.cell 2
  have vz2 := hV2.frozen 2
  have r3 : w2.cell? ⟨w.heap.size, 3, none⟩ = some (.string ⟨#[]⟩) := hR2.cell 3
  have rz3 := hR2.frozen 3
  have v3 : w2.cell? ⟨w.heap.size + 1, 3, none⟩ = some (.string ⟨#[]⟩) := hV2.cell 3
  have vz3 := hV2.frozen 3
  have r4 : w2.cell? ⟨w.heap.size, 4, none⟩ = some (.bool false) := hR2.cell 4
  have rz4 := hR2.frozen 4
  have v4 : w2.cell? ⟨w.heap.size + 1, 4, none⟩ = some (.bool false) := hV2.cell 4
  have vz4 := hV2.frozen 4
  clear hR2 hV2
  go_wp2
  refine bodyPost_ret (v := .agg #[.int .u8 (ty : Int), .bool false, .int .i64 0, .string ⟨#[]⟩, .bool bq]) (by simp [results, Tryd.results54, go_sem, r0, r1, r2, r3, r4]) rfl ⟨rfl, ?_, ?_⟩
  · iterate 6 (refine RSt.far ?_ (by simp; omega) (by simp; omega) _)
    exact HS.out
  · iterate 6 (refine only_setCell ?_ (.inr (by simp)) _)
    exact HG2.out
set_option maxRecDepth 100000 in
set_option maxHeartbeats 2000000 in
theorem value_int (B rb ty : Nat) (s : RS) (w : World) (h : RSt w B rb s) (h0 : nb s ≠ 0) (h1 : ty = 1) :
    Calls Tryd.prog 54 #[.pointer (some ⟨rb, 0, none⟩), .int .u8 (ty : Int)] w (RetN w B rb (rdVal ty s).val (rdValS ty s)) := by
  have HN := fun o o' => Lib.hid (number_any B rb s ((w.alloc o).alloc o') ((h.alloc o).alloc o'))
  have hlt := h.lt
  have hund := h.under
  rw [show rdVal ty s = ⟨ty, false, int4 (rdB 4 (rdS 1 s)), noText, false⟩ by unfold rdVal; rw [if_neg h0, if_pos h1], show rdValS ty s = rdS 4 (rdS 1 s) by unfold rdValS; rw [if_neg h0, if_pos h1]]
  unfold noText
  have HNE0 : Hid (some w.heap.size ≠ some rb) := fun e => by injection e; omega
  have HNE1 : Hid (some (w.heap.size + 1) ≠ some rb) := fun e => by injection e; omega
  have e0 : ((nb s : Int) == 0) = false := by rw [beq_eq_false_iff_ne]; omega
  have e1 : ((ty : Int) == 1) = true := by rw [beq_iff_eq]; omega
  clear h0 h1
  generalize nb s = k at *
  have HIV : Hid (int4 (rdB 4 (rdS 1 s)) = sg4 (((rdB 4 (rdS 1 s)).getD 0 0).toNat + 256 * ((rdB 4 (rdS 1 s)).getD 1 0).toNat + 65536 * ((rdB 4 (rdS 1 s)).getD 2 0).toNat + 16777216 * ((rdB 4 (rdS 1 s)).getD 3 0).toNat)) := show _ = _ from rfl
  generalize int4 (rdB 4 (rdS 1 s)) = iv at *
  clear h
  go_enter Tryd.func54, Tryd.ntmps54
  go_wp2_with fail
  refine (HN _ _).out.mono ?_
  rintro e w1 ⟨rfl, hs, hg⟩
  have hR := ((Blk.new w 30 #[.int .u8 0, .bool false, .int .i64 0, .string ⟨#[]⟩, .bool false]).alloc _).grown hg HNE0.out
  have hV := (Blk.new1 w _ 30 #[.int .u8 (ty : Int), .bool false, .int .i64 0, .string ⟨#[]⟩, .bool false]).grown hg HNE1.out
  have HG := Lib.hid ((only_alloc (only_alloc (World.grownBy.refl w (some rb)) _) _).trans hg)
  clear hg
  have HT := Lib.hid (take_any B rb 4 4 rfl (rdS 1 s) w1 hs (by omega))
  have hb0 : ((rdB 4 (rdS 1 s)).getD 0 0).toNat < 256 := UInt8.toNat_lt _
  have hb1 : ((rdB 4 (rdS 1 s)).getD 1 0).toNat < 256 := UInt8.toNat_lt _
  have hb2 : ((rdB 4 (rdS 1 s)).getD 2 0).toNat < 256 := UInt8.toNat_lt _
  have hb3 : ((rdB 4 (rdS 1 s)).getD 3 0).toNat < 256 := UInt8.toNat_lt _
  have HC0 := Lib.hid (bv_at (rdB 4 (rdS 1 s)) 0 (by rw [rdB_len]; omega))
  have HC1 := Lib.hid (bv_at (rdB 4 (rdS 1 s)) 1 (by rw [rdB_len]; omega))
  have HC2 := Lib.hid (bv_at (rdB 4 (rdS 1 s)) 2 (by rw [rdB_len]; omega))
  have HC3 := Lib.hid (bv_at (rdB 4 (rdS 1 s)) 3 (by rw [rdB_len]; omega))
  generalize ((rdB 4 (rdS 1 s)).getD 0 0).toNat = k0 at *
  generalize ((rdB 4 (rdS 1 s)).getD 1 0).toNat = k1 at *
  generalize ((rdB 4 (rdS 1 s)).getD 2 0).toNat = k2 at *
  generalize ((rdB 4 (rdS 1 s)).getD 3 0).toNat = k3 at *
  clear hs
  go_wp2_with fail
  refine HT.out.mono ?_
  rintro e w2 ⟨Y, cy, rfl, hcy, hr, hs, hg⟩
  obtain ⟨b1, off, rfl, hbb, hcell⟩ := hr.plain (by omega) (by omega)
  have c0 : w2.cell? ⟨b1, off, none⟩ = some (.int .u8 (k0 : Int)) := hcell 0 _ HC0.out
  have c1 : w2.cell? ⟨b1, off + 1, none⟩ = some (.int .u8 (k1 : Int)) := hcell 1 _ HC1.out
  have c2 : w2.cell? ⟨b1, off + 2, none⟩ = some (.int .u8 (k2 : Int)) := hcell 2 _ HC2.out
  have c3 : w2.cell? ⟨b1, off + 3, none⟩ = some (.int .u8 (k3 : Int)) := hcell 3 _ HC3.out
  have hR2 := hR.grown hg HNE0.out
  have hV2 := hV.grown hg HNE1.out
  have HG2 := Lib.hid (HG.out.trans hg)
  have HS := Lib.hid hs
  clear hs hg hR hV hcell hr
  have r0 : w2.cell? ⟨w.heap.size, 0, none⟩ = some (.int .u8 0) := hR2.cell 0
  have rz0 := hR2.frozen 0
  have v0 : w2.cell? ⟨w.heap.size + 1, 0, none⟩ = some (.int .u8 (ty : Int)) := hV2.cell 0
  have vz0 := hV2.frozen 0
  have r1 : w2.cell? ⟨w.heap.size, 1, none⟩ = some (.bool false) := hR2.cell 1
  have rz1 := hR2.frozen 1
  have v1 : w2.cell? ⟨w.heap.size + 1, 1, none⟩ = some (.bool false) := hV2.cell 1
  have vz1 := hV2.frozen 1
  have r2 : w2.cell? ⟨w.heap.size, 2, none⟩ = some (.int .i64 0) := hR2.cell 2
  have rz2 := hR2.frozen 2
  have v2 : w2.cell? ⟨w.heap.size + 1, 2, none⟩ = some (.int .i64 0) := hV2.cell 2
  have vz2 := hV2.frozen 2
  have r3 : w2.cell? ⟨w.heap.size, 3, none⟩ = some (.string ⟨#[]⟩) := hR2.cell 3
  have rz3 := hR2.frozen 3
  have v3 : w2.cell? ⟨w.heap.size + 1, 3, none⟩ = some (.string ⟨#[]⟩) := hV2.cell 3
  have vz3 := hV2.frozen 3
  have r4 : w2.cell? ⟨w.heap.size, 4, none⟩ = some (.bool false) := hR2.cell 4
  have rz4 := hR2.frozen 4
  have v4 : w2.cell? ⟨w.heap.size + 1, 4, none⟩ = some (.bool false) := hV2.cell 4
  have vz4 := hV2.frozen 4
  clear hR2 hV2
  go_wp2
  go_still_tail 25, (by kernel_rfl)
  go_wp2
  rw [four k0 k1 k2 k3 hb0 hb1 hb2 hb3, ← HIV.out]
  refine bodyPost_ret (v := .agg #[.int .u8 (ty : Int), .bool false, .int .i64 iv, .string ⟨#[]⟩, .bool false]) (by simp [results, Tryd.results54, go_sem, r0, r1, r2, r3, r4]) rfl ⟨rfl, ?_, ?_⟩
  · refine RSt.drew ?_
    iterate 6 (refine RSt.far ?_ (by simp; omega) (by simp; omega) _)
    exact HS.out
  · refine only_drew ?_
    iterate 6 (refine only_setCell ?_ (.inr (by simp)) _)
    exact HG2.out
theorem rdValue_any (B rb ty : Nat) (s : RS) (w : World) (h : RSt w B rb s) :
    Calls Tryd.prog 54 #[.pointer (some ⟨rb, 0, none⟩), .int .u8 (ty : Int)] w (RetN w B rb (rdVal ty s).val (rdValS ty s)) := by
  by_cases h0 : nb s = 0
  · exact value_null B rb ty s w h h0
  · by_cases h1 : ty = 1
    · exact value_int B rb ty s w h h0 h1
    · by_cases h2 : ty = 2
      · exact value_text B rb ty s w h h0 h2
      · exact value_bool B rb ty s w h h0 h1 h2
end Go.Proofs.YtophcoaikelopaaDoor
