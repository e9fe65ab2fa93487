/- The walks and laws that the claim leans on, part 18. -/
import Derived.Test.YtnlokpakiambaaaGreatDoorJao
import Derived.Test.YtnlokpakiambaaaGreatDoorJap
set_option maxRecDepth 100000
set_option maxHeartbeats 16000000
namespace Go.Proofs.YtnlokpakiambaaaGreatDoor
open Go.Lib (hid)
section
open Go.RowKit
section
variable {a : DA} {L T : Nat} {w : World} {S : Fp} {cur : Nat → Nat} {F : Nat}
theorem look_undiv (h : Dev a L T w S cur F) (ht : Tab w) (c g : Nat) (hc : c + 32 ≤ L) (hg0 : 0 < g) (hg : g < 65536) (hv : cur (8 * c) = freeW g) :
  Calls Tryz.prog 160 #[memV a, .int .i64 (c : Int)] w fun e w' => e = .returned (.tuple #[.agg #[.int .i64 (-1), .int .i64 (-1), .int .u16 (g : Int)], .int .i64 0]) ∧ Below w.heap.size w w' :=
 look_core h c hc (freeW g) (-1) (-1) (g : Int) hv (fun W hW => header_undiv g hg0 hg W (ht.below hW))
theorem look_cls (h : Dev a L T w S cur F) (ht : Tab w) (hp : Pay w) (c cl g : Nat) (hc : c + 32 ≤ L) (hcl : cl < 5) (hg0 : 0 < g) (hg : g < 65536) (hv : cur (8 * c) = hdrW cl g) :
  Calls Tryz.prog 160 #[memV a, .int .i64 (c : Int)] w fun e w' => e = .returned (.tuple #[.agg #[.int .i64 (cl : Int), .int .i64 0, .int .u16 (g : Int)], .int .i64 0]) ∧ Below w.heap.size w w' :=
 look_core h c hc (hdrW cl g) (cl : Int) 0 (g : Int) hv (fun W hW => header_cls cl g hcl hg0 hg W (ht.below hW) (hp.below hW))
end
def chNone : Value := .agg #[.nilIface, .int .i64 0, .int .i64 0, .int .i64 0, .int .u16 0]
section
variable {a : DA} {L T : Nat} {w : World} {S : Fp} {cur : Nat → Nat} {F : Nat}
theorem chOpen_undiv (h : Dev a L T w S cur F) (ht : Tab w) (c g : Nat) (hc : c + 32 ≤ L) (hg0 : 0 < g) (hg : g < 65536) (hv : cur (8 * c) = freeW g) :
  Calls Tryz.prog 116 #[memV a, .int .i64 (c : Int)] w fun e w' => e = .returned (.tuple #[chNone, .int .i64 8]) ∧ Below w.heap.size w w' := by
 have HB0 : Hid (Below w.heap.size w (w.alloc (.cells #[.nilIface, .int .i64 0, .int .i64 0, .int .i64 0, .int .u16 0] 221))) := (Below.refl _ _).alloc (Nat.le_refl _) _
 have HL := hid (look_undiv (h.below HB0.out) (ht.below HB0.out) c g hc hg0 hg hv)
 clear h ht hv
 unfold chNone
 unfold memV at *
 have HK0 := hid (Blk.new w 221 #[.nilIface, .int .i64 0, .int .i64 0, .int .i64 0, .int .u16 0])
 go_enter Tryz.func116, Tryz.ntmps116
 go_wp2_with fail
 refine HL.out.mono ?_
 rintro e w1 ⟨rfl, hb1⟩
 have HB1 := hid (HB0.out.trans (hb1.mono HB0.out.size))
 have hk1 := HK0.out.below hb1 HK0.out.lt
 have hlt := hk1.lt
 have c0 : w1.cell? ⟨w.heap.size, 0, none⟩ = some (.nilIface) := hk1.cell 0
 have z0 : w1.frozen? ⟨w.heap.size, 0, none⟩ = false := hk1.frozen 0
 have c1 : w1.cell? ⟨w.heap.size, 1, none⟩ = some (.int .i64 0) := hk1.cell 1
 have z1 : w1.frozen? ⟨w.heap.size, 1, none⟩ = false := hk1.frozen 1
 have c2 : w1.cell? ⟨w.heap.size, 2, none⟩ = some (.int .i64 0) := hk1.cell 2
 have z2 : w1.frozen? ⟨w.heap.size, 2, none⟩ = false := hk1.frozen 2
 have c3 : w1.cell? ⟨w.heap.size, 3, none⟩ = some (.int .i64 0) := hk1.cell 3
 have z3 : w1.frozen? ⟨w.heap.size, 3, none⟩ = false := hk1.frozen 3
 have c4 : w1.cell? ⟨w.heap.size, 4, none⟩ = some (.int .u16 0) := hk1.cell 4
 have z4 : w1.frozen? ⟨w.heap.size, 4, none⟩ = false := hk1.frozen 4
 have hlt1 : w.heap.size < w1.heap.size := hlt
 clear hb1 hk1 HL
 go_wp2
 have n01 : (⟨w.heap.size, 0, none⟩ : Addr) ≠ ⟨w.heap.size, 1, none⟩ := by simp
 have n02 : (⟨w.heap.size, 0, none⟩ : Addr) ≠ ⟨w.heap.size, 2, none⟩ := by simp
 have n03 : (⟨w.heap.size, 0, none⟩ : Addr) ≠ ⟨w.heap.size, 3, none⟩ := by simp
 have n04 : (⟨w.heap.size, 0, none⟩ : Addr) ≠ ⟨w.heap.size, 4, none⟩ := by simp
 have n12 : (⟨w.heap.size, 1, none⟩ : Addr) ≠ ⟨w.heap.size, 2, none⟩ := by simp
 have n13 : (⟨w.heap.size, 1, none⟩ : Addr) ≠ ⟨w.heap.size, 3, none⟩ := by simp
 have n14 : (⟨w.heap.size, 1, none⟩ : Addr) ≠ ⟨w.heap.size, 4, none⟩ := by simp
 have n23 : (⟨w.heap.size, 2, none⟩ : Addr) ≠ ⟨w.heap.size, 3, none⟩ := by simp
 have n24 : (⟨w.heap.size, 2, none⟩ : Addr) ≠ ⟨w.heap.size, 4, none⟩ := by simp
 have n34 : (⟨w.heap.size, 3, none⟩ : Addr) ≠ ⟨w.heap.size, 4, none⟩ := by simp
 refine bodyPost_ret (v := .tuple #[.agg #[.nilIface, .int .i64 0, .int .i64 0, .int .i64 0, .int .u16 0], .int .i64 8]) (by simp [results, Tryz.results116, go_sem, c0, c1, c2, c3, c4, hlt]) rfl ⟨rfl, ?_⟩
 have h1 := (((((HB1.out.setCell (p := ⟨w.heap.size, 0, none⟩) (Nat.le_refl _) (.nilIface)).setCell (p := ⟨w.heap.size, 1, none⟩) (Nat.le_refl _) (.int .i64 0)).setCell (p := ⟨w.heap.size, 2, none⟩) (Nat.le_refl _) (.int .i64 0)).setCell (p := ⟨w.heap.size, 3, none⟩) (Nat.le_refl _) (.int .i64 0)).setCell (p := ⟨w.heap.size, 4, none⟩) (Nat.le_refl _) (.int .u16 0))
 exact h1.alloc h1.size _
theorem chOpen_cls (h : Dev a L T w S cur F) (ht : Tab w) (hp : Pay w) (c cl g : Nat) (hc : c + 32 ≤ L) (hcl : cl < 5) (hg0 : 0 < g) (hg : g < 65536) (hv : cur (8 * c) = hdrW cl g) :
  Calls Tryz.prog 116 #[memV a, .int .i64 (c : Int)] w fun e w' => e = .returned (.tuple #[chV a c cl 0 g, .int .i64 0]) ∧ Below w.heap.size w w' := by
 have HB0 : Hid (Below w.heap.size w (w.alloc (.cells #[.nilIface, .int .i64 0, .int .i64 0, .int .i64 0, .int .u16 0] 221))) := (Below.refl _ _).alloc (Nat.le_refl _) _
 have HL := hid (look_cls (h.below HB0.out) (ht.below HB0.out) (hp.below HB0.out) c cl g hc hcl hg0 hg hv)
 clear h ht hv hp
 unfold chV
 have d0 : decide ((cl : Int) < 0) = false := decide_eq_false (by omega)
 unfold memV at *
 have HK0 := hid (Blk.new w 221 #[.nilIface, .int .i64 0, .int .i64 0, .int .i64 0, .int .u16 0])
 go_enter Tryz.func116, Tryz.ntmps116
 go_wp2_with fail
 refine HL.out.mono ?_
 rintro e w1 ⟨rfl, hb1⟩
 have HB1 := hid (HB0.out.trans (hb1.mono HB0.out.size))
 have hk1 := HK0.out.below hb1 HK0.out.lt
 have hlt := hk1.lt
 have c0 : w1.cell? ⟨w.heap.size, 0, none⟩ = some (.nilIface) := hk1.cell 0
 have z0 : w1.frozen? ⟨w.heap.size, 0, none⟩ = false := hk1.frozen 0
 have c1 : w1.cell? ⟨w.heap.size, 1, none⟩ = some (.int .i64 0) := hk1.cell 1
 have z1 : w1.frozen? ⟨w.heap.size, 1, none⟩ = false := hk1.frozen 1
 have c2 : w1.cell? ⟨w.heap.size, 2, none⟩ = some (.int .i64 0) := hk1.cell 2
 have z2 : w1.frozen? ⟨w.heap.size, 2, none⟩ = false := hk1.frozen 2
 have c3 : w1.cell? ⟨w.heap.size, 3, none⟩ = some (.int .i64 0) := hk1.cell 3
 have z3 : w1.frozen? ⟨w.heap.size, 3, none⟩ = false := hk1.frozen 3
 have c4 : w1.cell? ⟨w.heap.size, 4, none⟩ = some (.int .u16 0) := hk1.cell 4
 have z4 : w1.frozen? ⟨w.heap.size, 4, none⟩ = false := hk1.frozen 4
 have hlt1 : w.heap.size < w1.heap.size := hlt
 clear hb1 hk1 HL
 go_wp2
 have n01 : (⟨w.heap.size, 0, none⟩ : Addr) ≠ ⟨w.heap.size, 1, none⟩ := by simp
 have n02 : (⟨w.heap.size, 0, none⟩ : Addr) ≠ ⟨w.heap.size, 2, none⟩ := by simp
 have n03 : (⟨w.heap.size, 0, none⟩ : Addr) ≠ ⟨w.heap.size, 3, none⟩ := by simp
 have n04 : (⟨w.heap.size, 0, none⟩ : Addr) ≠ ⟨w.heap.size, 4, none⟩ := by simp
 have n12 : (⟨w.heap.size, 1, none⟩ : Addr) ≠ ⟨w.heap.size, 2, none⟩ := by simp
 have n13 : (⟨w.heap.size, 1, none⟩ : Addr) ≠ ⟨w.heap.size, 3, none⟩ := by simp
 have n14 : (⟨w.heap.size, 1, none⟩ : Addr) ≠ ⟨w.heap.size, 4, none⟩ := by simp
 have n23 : (⟨w.heap.size, 2, none⟩ : Addr) ≠ ⟨w.heap.size, 3, none⟩ := by simp
 have n24 : (⟨w.heap.size, 2, none⟩ : Addr) ≠ ⟨w.heap.size, 4, none⟩ := by simp
 have n34 : (⟨w.heap.size, 3, none⟩ : Addr) ≠ ⟨w.heap.size, 4, none⟩ := by simp
 refine bodyPost_ret (v := .tuple #[.agg #[.iface 41 (.pointer (some ⟨a.th 0, 0, none⟩)), .int .i64 (c : Int), .int .i64 (cl : Int), .int .i64 0, .int .u16 (g : Int)], .int .i64 0]) (by simp [results, Tryz.results116, go_sem, c0, c1, c2, c3, c4, hlt]) rfl ⟨rfl, ?_⟩
 have h1 := (((((HB1.out.setCell (p := ⟨w.heap.size, 0, none⟩) (Nat.le_refl _) (.iface 41 (.pointer (some ⟨a.th 0, 0, none⟩)))).setCell (p := ⟨w.heap.size, 1, none⟩) (Nat.le_refl _) (.int .i64 (c : Int))).setCell (p := ⟨w.heap.size, 2, none⟩) (Nat.le_refl _) (.int .i64 (cl : Int))).setCell (p := ⟨w.heap.size, 3, none⟩) (Nat.le_refl _) (.int .i64 0)).setCell (p := ⟨w.heap.size, 4, none⟩) (Nat.le_refl _) (.int .u16 (g : Int)))
 exact h1.alloc h1.size _
end
end
section
open Go.RowKit
theorem heapFormat_any {a : DA} {L T : Nat} {w : World} {S : Fp} {cur : Nat → Nat} (h : Dev a L T w S cur 0) (ht : Tab w) (hg : ¬ S 2) (s n K : Nat) (hn : 32 ≤ n) (hs : s + n ≤ L) (hK : n / 32 = K) (hT : T + 3 * K ≤ 1000000000) :
  Calls Tryz.prog 102 #[memV a, .int .i64 (s : Int), .int .i64 (n : Int)] w (RetDev a L (T + 3 * K) w S (arC cur s K) 0 (.int .i64 0)) := by
 have HA := hid (arenaFormat_any h ht hg s n K hn hs hK hT)
 clear h ht
 unfold memV at *
 go_enter Tryz.func102, Tryz.ntmps102
 go_wp2_with fail
 refine HA.out.mono ?_
 rintro e w1 ⟨rfl, h1⟩
 have H1 := hid h1
 clear h1
 go_wp2
 go_ret
 exact ⟨rfl, H1.out⟩
end
section
open Go.RowKit
theorem mask_low (x : Nat) (h : x < 18446744073709551616) : bits .and .u64 (x : Int) 4294967295 = ((x % 4294967296 : Nat) : Int) := by
 have h1 := u64_and_nat x 4294967295 h (by omega)
 rw [show ((4294967295 : Nat) : Int) = 4294967295 from rfl] at h1
 rw [h1, show (4294967295 : Nat) = 2 ^ 32 - 1 from rfl, Nat.and_two_pow_sub_one_eq_mod]
theorem aheadDLoad (p : Addr) (w : World) : (nilAhead 563 43 (.pointer (some p)) "Load").run Tryz.prog w = .ok (some false) w := by kernel_rfl
section
variable {a : DA} {L T : Nat} {w : World} {S : Fp} {cur : Nat → Nat} {F : Nat} {d g r : Nat}
theorem within_blob (h : Dev a L T w S cur F) (hB : Blk w d 147 (dirCells a g r)) (p k : Nat) (hp0 : p ≠ 0) (hk : k < 60) (bp bs : Nat) (hc : w.cell? ⟨bp, 0, none⟩ = some (.int .u64 (p : Int))) (hs : w.cell? ⟨bs, 0, none⟩ = some (dirV d)) :
  Calls Tryz.prog 198 #[.int .i64 (k : Int), .pointer (some ⟨bp, 0, none⟩), .pointer (some ⟨bs, 0, none⟩)] w fun e w' => e = .returned (.bool (decide (pOff p + 8 * k + 8 ≤ 64 * L))) ∧ Below w.heap.size w w' := by
 have hL : L ≤ 4096 := by obtain ⟨ls, exe, per, cs, lsC, hdc, hnt⟩ := h; exact hdc.hL
 have HAt := hid (at_any p k (by omega))
 have e1 : pAt p k = pOff p + 8 * k := by unfold pAt; rw [if_neg (by omega)]
 have ho : pOff p ≤ 34359738360 := by unfold pOff; omega
 rw [e1] at HAt
 have HSz : Hid (∀ W, W = w.drew → Calls Tryz.prog 292 #[.pointer (some ⟨d, 0, none⟩)] W (fun e w' => e = .returned (.int .u64 ((64 * L : Nat) : Int)) ∧ W = w')) := hid (fun W hW => by subst hW; exact sizeD (h.below (Below.refl _ _).drew) hB.drew)
 have hm := methDSize (some ⟨d, 0, none⟩)
 obtain ⟨z, hz⟩ : ∃ z, pOff p + 8 * k = z := ⟨_, rfl⟩
 obtain ⟨m, hm2⟩ : ∃ m, 64 * L = m := ⟨_, rfl⟩
 rw [hz] at HAt ⊢
 rw [hm2] at HSz ⊢
 have hzb : z ≤ 40000000000 := by omega
 have hmb : m ≤ 300000 := by omega
 clear e1 ho hz hm2 h hB hL
 unfold dirV at *
 go_enter Tryz.func198, Tryz.ntmps198
 go_wp2_with fail
 refine wp_region_scriptH (fun w' => w' = w.drew) 5 [] [(1, 0), (1, 1), (1, 3), (0, 2), (0, 4)] (by kernel_rfl) (by kernel_rfl) rfl ?_
 refine wpScriptH_take (.int .u64 (p : Int)) (by rfl) (by rfl) (fun w' hS => ?_) ?_
 ·subst hS
  go_simp
 simp only [zA, zB, Act.put, zD, zE, zF]
 refine wpScriptH_take (.int .i64 (k : Int)) (by rfl) (by rfl) (fun w' hS => ?_) ?_
 ·go_simp
 simp only [zA, zB, zC, Act.put, zD, zE, zF]
 refine wpScriptH_take (.iface 43 (.pointer (some ⟨d, 0, none⟩))) (by rfl) (by rfl) (fun w' hS => ?_) ?_
 ·subst hS
  go_simp
 simp only [zA, zB, zC, Act.put, zD, zE, zF]
 refine wpScriptH_do (by rfl) ?_
 go_wp2_with (go_at_call 24; refine (HAt.out _).mono ?_; rintro e w1 ⟨rfl, rfl⟩)
 refine ⟨rfl, ?_⟩
 refine wpScriptH_do (by rfl) ?_
 go_wp2_with (go_at_call 292; refine (HSz.out _ rfl).mono ?_; rintro e w1 ⟨rfl, rfl⟩)
 refine ⟨rfl, ?_⟩
 show wpList _ _ _ _ _ _
 simp only [List.drop_succ_cons, List.drop_zero]
 by_cases c1 : z < m
 ·have u1 : IntKind.u64.wrap ((m : Int) - (z : Int)) = ((m - z : Nat) : Int) := by rw [IntKind.wrap_u64]; omega
  have d2 : decide ((8 : Int) ≤ ((m - z : Nat) : Int)) = decide (z + 8 ≤ m) := decide_eq_decide.2 (by omega)
  have d1 : decide ((z : Int) < (m : Int)) = true := decide_eq_true (by omega)
  generalize m - z = q at *
  go_wp2
  refine NoPanic.normal ?_
  go_wp2
  go_ret
  refine ⟨?_, (Below.refl _ _).drew⟩
  first | rfl | rw [d2] | simp [d2]
 ·have d1 : decide ((z : Int) < (m : Int)) = false := decide_eq_false (by omega)
  have d2 : decide (z + 8 ≤ m) = false := decide_eq_false (by omega)
  go_wp2
  refine NoPanic.normal ?_
  go_wp2
  go_ret
  refine ⟨?_, (Below.refl _ _).drew⟩
  rw [d2]
  rfl
def ldL (cur : Nat → Nat) (o n k : Nat) : List Nat := (List.range n).map fun j => if j < k then cur (o + j) else 0
theorem ldL_len (cur : Nat → Nat) (o n k : Nat) : (ldL cur o n k).length = n := by simp [ldL]
theorem ldL_zero (cur : Nat → Nat) (o n : Nat) : ldL cur o n 0 = List.replicate n 0 := by
 apply List.ext_getElem
 ·simp [ldL]
 ·intro i h1 h2
  simp [ldL]
theorem ldL_set (cur : Nat → Nat) (o n k : Nat) : (ldL cur o n k).set k (cur (o + k)) = ldL cur o n (k + 1) := by
 apply List.ext_getElem
 ·simp [ldL]
 ·intro i h1 h2
  rw [List.getElem_set]
  simp only [ldL, List.getElem_map, List.getElem_range]
  by_cases e : k = i
  ·subst e
   rw [if_pos rfl, if_pos (by omega)]
  ·rw [if_neg e]
   by_cases h : i < k
   ·rw [if_pos h, if_pos (by omega)]
   ·rw [if_neg h, if_neg (by omega)]
theorem ldL_end (cur : Nat → Nat) (o n : Nat) : ldL cur o n n = (List.range n).map fun j => cur (o + j) := by
 apply List.ext_getElem
 ·simp [ldL]
 ·intro i h1 h2
  simp only [ldL, List.getElem_map, List.getElem_range]
  rw [if_pos (by simpa [ldL] using h1)]
theorem load_cases (L : Nat) (cur : Nat → Nat) (p : Nat) (c1 : ¬ 64 * L < pOff p + 16) (hv : cur (pOff p / 8 + 1) < 18446744073709551616) (_hL : L ≤ 4096) : ∃ (v rest hi : Nat), cur (pOff p / 8 + 1) = v ∧ bits .and .u64 (v : Int) 4294967295 = (rest : Int) ∧ (v : Int) / 4294967296 = (hi : Int) ∧ rest < 4294967296 ∧
  ((loadR L cur p = none ∧ ((rest : Int) != (hi : Int)) = true) ∨ (loadR L cur p = none ∧ ((rest : Int) != (hi : Int)) = false ∧ decide ((2000 : Int) < (rest : Int)) = true) ∨
   ∃ n1 n : Nat, ((rest : Int) != (hi : Int)) = false ∧ decide ((2000 : Int) < (rest : Int)) = false ∧ rest ≤ 2000 ∧ bSize rest = n1 ∧ (n1 : Int) - 1 = (n : Int) ∧ n < 60 ∧ n1 ≤ 60 ∧ wrap64 (n : Int) = (n : Int) ∧
    ((decide (pOff p + 8 * n + 8 ≤ 64 * L) = false ∧ loadR L cur p = none) ∨ (decide (pOff p + 8 * n + 8 ≤ 64 * L) = true ∧ loadR L cur p = some ((List.range n1).map fun j => cur (pOff p / 8 + j), rest) ∧ ∀ k, k < n1 → pOff p + 8 * k + 8 ≤ 64 * L))) := by
 obtain ⟨v, e⟩ : ∃ v, cur (pOff p / 8 + 1) = v := ⟨_, rfl⟩
 rw [e] at hv
 refine ⟨v, v % 4294967296, v / 4294967296, e, mask_low v hv, by omega, by omega, ?_⟩
 have hR : loadR L cur p = if v % 4294967296 ≠ v / 4294967296 ∨ 2000 < v % 4294967296 then none else if 64 * L < pOff p + 8 * bSize (v % 4294967296) then none else some ((List.range (bSize (v % 4294967296))).map fun j => cur (pOff p / 8 + j), v % 4294967296) := by
  unfold loadR
  rw [if_neg c1, e]
 generalize v / 4294967296 = hi at *
 generalize v % 4294967296 = rest at *
 by_cases c3 : rest = hi
 ·have d1 : ((rest : Int) != (hi : Int)) = false := by rw [bne, beq_iff_eq.2 (by omega)]; rfl
  by_cases c4 : 2000 < rest
  ·exact .inr (.inl ⟨by rw [hR, if_pos (.inr c4)], d1, decide_eq_true (by omega)⟩)
  ·rw [if_neg (by omega)] at hR
   obtain ⟨h3, h60⟩ := bSize_le rest
   obtain ⟨n, hn⟩ : ∃ n, bSize rest = n + 1 := ⟨bSize rest - 1, by omega⟩
   refine .inr (.inr ⟨n + 1, n, d1, decide_eq_false (by omega), by omega, hn, by omega, by omega, by omega, IntWalk.wrap64_in _ (by omega), ?_⟩)
   rw [hn] at hR
   by_cases c5 : 64 * L < pOff p + 8 * (n + 1)
   ·exact .inl ⟨decide_eq_false (by omega), by rw [hR, if_pos c5]⟩
   ·exact .inr ⟨decide_eq_true (by omega), by rw [hR, if_neg c5], fun k hk => by omega⟩
 ·exact .inl ⟨by rw [hR, if_pos (.inl c3)], by rw [bne, beq_eq_false_iff_ne.2 (by omega)]; rfl⟩
def RetLd (w : World) (o : Option (List Nat × Nat)) (e : Ending) (w' : World) : Prop := match o with
 | none => e = .returned (.tuple #[.slice none 0 0, .int .i64 0, .int .i64 11]) ∧ Below w.heap.size w w'
 | some (l, rest) => ∃ g, e = .returned (.tuple #[.slice (some ⟨g, 0, none⟩) l.length l.length, .int .i64 (rest : Int), .int .i64 0]) ∧ Blk w' g 23 (uA l) ∧ w.heap.size ≤ g ∧ Below w.heap.size w w'
theorem bload_any (h : Dev a L T w S cur 0) (hB : Blk w d 147 (dirCells a g r)) (hpy : Pay w) (hbn : ∀ i, cur i < 18446744073709551616) (p : Nat) (hp0 : p ≠ 0) (_hp64 : p < 18446744073709551616) :
  Calls Tryz.prog 155 #[dirV d, .int .u64 (p : Int)] w (RetLd w (loadR L cur p)) := by
 have hL : L ≤ 4096 := by obtain ⟨ls, exe, per, cs, lsC, hdc, hnt⟩ := h; exact hdc.hL
 have hb0 : Below w.heap.size w ((w.alloc (.cells #[dirV d] 124)).alloc (.cells #[.int .u64 (p : Int)] 27)) := ((Below.refl _ _).alloc (Nat.le_refl _) _).alloc (by simp) _
 have HB0 := hid hb0
 have HS := hid ((Blk.new w 124 #[dirV d]).alloc (.cells #[.int .u64 (p : Int)] 27))
 have esz : (w.alloc (.cells #[dirV d] 124)).heap.size = w.heap.size + 1 := by simp
 have HP : Hid (Blk ((w.alloc (.cells #[dirV d] 124)).alloc (.cells #[.int .u64 (p : Int)] 27)) (w.heap.size + 1) 27 #[.int .u64 (p : Int)]) := hid (by
  have := Blk.new (w.alloc (.cells #[dirV d] 124)) 27 #[.int .u64 (p : Int)]
  rw [esz] at this
  exact this)
 have HD := hid h
 have HBB := hid hB
 have HPy := hid hpy
 have HWt : Hid (∀ (W : World) (k : Nat), k < 60 → Below w.heap.size w W → W.cell? ⟨w.heap.size, 0, none⟩ = some (dirV d) → W.cell? ⟨w.heap.size + 1, 0, none⟩ = some (.int .u64 (p : Int)) → Calls Tryz.prog 198 #[.int .i64 (k : Int), .pointer (some ⟨w.heap.size + 1, 0, none⟩), .pointer (some ⟨w.heap.size, 0, none⟩)] W fun e w' => e = .returned (.bool (decide (pOff p + 8 * k + 8 ≤ 64 * L))) ∧ Below W.heap.size W w') := hid (fun W k hk hW h1 h2 => by
  have h5 := within_blob (h.below hW) (hB.below hW hB.lt) p k hp0 hk (w.heap.size + 1) w.heap.size h2 h1
  exact h5)
 have hmf : ∀ (fn : Fn) (first cap : Array Value) (w : World), (Instr.makeFunc fn first cap).run Tryz.prog w = .ok (.func fn first cap) w := fun _ _ _ _ => rfl
 have hmE := methDErr (some ⟨d, 0, none⟩)
 have hmL := methDLoad (some ⟨d, 0, none⟩)
 have hna := aheadDLoad ⟨d, 0, none⟩
 clear h hB hpy hb0 esz
 unfold dirV at *
 go_enter Tryz.func155, Tryz.ntmps155
 go_upto_region 2 with fail
 have hS0 := HS.out.cell 0
 have hP0 := HP.out.cell 0
 generalize hW0 : (w.alloc (.cells #[.iface 43 (.pointer (some ⟨d, 0, none⟩))] 124)).alloc (.cells #[.int .u64 (p : Int)] 27) = W0 at *
 clear hW0
 have hpo8 : pOff p % 8 = 0 := by unfold pOff; omega
 have hpo9 : pOff p ≤ 34359738360 := by unfold pOff; omega
 have HAt : Hid (∀ (k : Nat) (W : World), k < 60 → Calls Tryz.prog 24 #[.int .u64 (p : Int), .int .i64 (k : Int)] W fun e w' => e = .returned (.int .u64 ((pOff p + 8 * k : Nat) : Int)) ∧ W = w') := hid (fun k W hk => by
  have h1 := at_any p k (by omega) W
  have h2 : pAt p k = pOff p + 8 * k := by unfold pAt; rw [if_neg (by omega)]
  rw [h2] at h1
  exact h1)
 have HRd : Hid (∀ (k : Nat) (W : World), pOff p + 8 * k + 8 ≤ 64 * L → Below w.heap.size w W → Calls Tryz.prog 291 #[.pointer (some ⟨d, 0, none⟩), .int .u64 ((pOff p + 8 * k : Nat) : Int)] W (fun e w' => e = .returned (.int .u64 (cur (pOff p / 8 + k) : Int)) ∧ W = w')) := hid (fun k W hk hW => loadD (HD.out.below hW) (HBB.out.below hW HBB.out.lt) (pOff p + 8 * k) _ (by omega) (by omega) (by rw [show (pOff p + 8 * k) / 8 = pOff p / 8 + k by omega]))
 have HEr : Hid (∀ W, Below w.heap.size w W → Calls Tryz.prog 288 #[.pointer (some ⟨d, 0, none⟩)] W fun e w' => e = .returned (.int .i64 0) ∧ W = w') := hid (fun W hW => errD (HD.out.below hW) (HBB.out.below hW HBB.out.lt))
 have HW1 := hid (HWt.out W0 1 (by omega) HB0.out hS0 hP0)
 rw [show ((1 : Nat) : Int) = 1 from rfl] at HW1
 have HFn : Hid (loadR L cur p = none → ∀ w', Below w.heap.size w w' → RetLd w (loadR L cur p) (.returned (.tuple #[.slice none 0 0, .int .i64 0, .int .i64 11])) w') := hid (fun h w' hb => by rw [h]; exact ⟨rfl, hb⟩)
 by_cases c1 : 64 * L < pOff p + 16
 ·have hR : loadR L cur p = none := by unfold loadR; rw [if_pos c1]
  have HF := hid (HFn.out hR)
  rw [show decide (pOff p + 8 * 1 + 8 ≤ 64 * L) = false from decide_eq_false (by omega)] at HW1
  clear c1 hR
  go_wp2_with (go_at_call 198; refine HW1.out.mono ?_; rintro e w1 ⟨rfl, hb1⟩; have HB1 := hid hb1; clear hb1)
  go_ret3
  exact HF.out _ (HB0.out.trans (HB1.out.mono HB0.out.size))
 ·rw [show decide (pOff p + 8 * 1 + 8 ≤ 64 * L) = true from decide_eq_true (by omega)] at HW1
  obtain ⟨v, rest, hi, hv, hmk, hdv, hr32, hall⟩ := load_cases L cur p c1 (hbn _) hL
  have HAll := hid hall
  clear hall
  go_upto_region 4 with (go_at_call 198; refine HW1.out.mono ?_; rintro e w1 ⟨rfl, hb1⟩; have HB1 := hid (HB0.out.trans (hb1.mono HB0.out.size)); have HS1 := hid (HS.out.below hb1 HS.out.lt); have HP1 := hid (HP.out.below hb1 HP.out.lt); clear hb1)
  have HL1 := hid (HRd.out 1 w1.drew (by omega) HB1.out.drew)
  rw [hv] at HL1
  have HA1 := hid (HAt.out 1 w1.drew (by omega))
  rw [show ((1 : Nat) : Int) = 1 from rfl] at HA1
  generalize pOff p + 8 * 1 = o1 at HL1 HA1
  refine wp_region_scriptH (fun w' => w' = w1.drew) 6 [] [(1, 0), (1, 1), (1, 3), (1, 4), (1, 5), (0, 2)] (by kernel_rfl) (by kernel_rfl) rfl ?_
  refine wpScriptH_take (.iface 43 (.pointer (some ⟨d, 0, none⟩))) (by rfl) (by rfl) (fun w' hS => ?_) ?_
  ·subst hS; have f1 : w1.cell? ⟨w.heap.size, 0, none⟩ = some (.iface 43 (.pointer (some ⟨d, 0, none⟩))) := HS1.out.cell 0
   go_simp
  simp only [zA, zB, Act.put, zD, zE, zF]
  refine wpScriptH_take (.int .u64 (p : Int)) (by rfl) (by rfl) (fun w' hS => ?_) ?_
  ·subst hS; have f1 : w1.cell? ⟨w.heap.size + 1, 0, none⟩ = some (.int .u64 (p : Int)) := HP1.out.cell 0
   go_simp
  simp only [zA, zB, zC, Act.put, zD, zE, zF]
  refine wpScriptH_take (.func (.method "Load") #[.iface 43 (.pointer (some ⟨d, 0, none⟩))] #[]) (by rfl) (by rfl) (fun w' hS => ?_) ?_
  ·go_simp
  simp only [zA, zB, zC, Act.put, zD, zE, zF]
  refine wpScriptH_take (.func (.method "Load") #[.iface 43 (.pointer (some ⟨d, 0, none⟩))] #[]) (by rfl) (by rfl) (fun w' hS => ?_) ?_
  ·go_simp
  simp only [zA, zB, zC, Act.put, zD, zE, zF]
  refine wpScriptH_take (.iface 43 (.pointer (some ⟨d, 0, none⟩))) (by rfl) (by rfl) (fun w' hS => ?_) ?_
  ·go_simp
  simp only [zA, zB, zC, Act.put, zD, zE, zF]
  refine wpScriptH_do (by rfl) ?_
  go_wp2_with (go_at_call 24; refine HA1.out.mono ?_; rintro e w2 ⟨rfl, rfl⟩)
  refine ⟨rfl, ?_⟩
  show wpList _ _ _ _ _ _
  simp only [List.drop_succ_cons, List.drop_zero]
  go_wp2_with (go_at_call 291; refine HL1.out.mono ?_; rintro e w2 ⟨rfl, rfl⟩)
  refine NoPanic.normal ?_
  have HBd := hid HB1.out.drew
  have HSd := hid HS1.out.drew
  have HPd := hid HP1.out.drew
  clear HL1 HA1 HW1 HB1 HS1 HP1
  generalize w1.drew = w2 at *
  have HE1 := hid (HEr.out w2 HBd.out)
  have f1 : w2.cell? ⟨w.heap.size, 0, none⟩ = some (.iface 43 (.pointer (some ⟨d, 0, none⟩))) := HSd.out.cell 0
  go_upto_region 9 with (go_at_call 288; refine HE1.out.mono ?_; rintro e w3 ⟨rfl, rfl⟩)
  rcases HAll.out with ⟨hR, d1⟩ | ⟨hR, d1, d2⟩ | ⟨n1, n, d1, d2, hr2, hn1, e2, hn60, hn1z, e1, hrest⟩
  ·have HF := hid (HFn.out hR)
   clear hR HAll
   go_wp2
   go_ret3
   exact HF.out _ HBd.out
  ·have HF := hid (HFn.out hR)
   clear hR HAll
   go_wp2
   go_ret3
   exact HF.out _ HBd.out
  ·have HN6 := hid (And.intro hn60 hn1z)
   have HE1 := hid e1
   have HE2 := hid e2
   have HN1 := hid hn1
   have HRR := hid hrest
   clear hn60 hn1z e1 e2 hn1 hrest HAll
   go_upto_region 11 with fail
   clear hdv hmk hr32 d1 d2
   have HSz := hid (bsize_any rest (Nat.le_trans hr2 (by decide)) w2 (HPy.out.below HBd.out))
   rw [HN1.out] at HSz
   have f2 : w2.cell? ⟨w.heap.size + 1, 0, none⟩ = some (.int .u64 (p : Int)) := HPd.out.cell 0
   have hWn := HWt.out w2 n HN6.out.1 HBd.out f1 f2
   have hWn2 : Calls Tryz.prog 198 #[.int .i64 (wrap64 (n : Int)), .pointer (some ⟨w.heap.size + 1, 0, none⟩), .pointer (some ⟨w.heap.size, 0, none⟩)] w2 fun e w' => e = .returned (.bool (decide (pOff p + 8 * n + 8 ≤ 64 * L))) ∧ Below w2.heap.size w2 w' := by rw [HE1.out]; exact hWn
   have HWn := hid hWn2
   clear hWn hWn2 f2
   have e2 := HE2.out
   rcases HRR.out with ⟨hd, hR⟩ | ⟨hd, hR, hfit⟩
   ·have HF := hid (HFn.out hR)
    rw [hd] at HWn
    clear hR HRR hd
    go_wp2_with (first
     | (go_at_call 153; refine HSz.out.mono ?_; rintro e w3 ⟨rfl, rfl⟩)
     | (go_at_call 198; refine HWn.out.mono ?_; rintro e w3 ⟨rfl, hb3⟩; have HB3 := hid (HBd.out.trans (hb3.mono HBd.out.size)); clear hb3))
    go_ret3
    exact HF.out _ HB3.out
   ·rw [hd] at HWn
    have HR2 := hid hR
    have HFit := hid hfit
    have hmkS := makeU n1 (Nat.le_trans HN6.out.2 (by decide))
    rw [show madeCells #[.int .u64 0] n1 = uA (ldL cur (pOff p / 8) n1 0) by rw [ldL_zero]; apply Array.ext'; rw [toList_madeCells_one]; unfold uA uCells; simp] at hmkS
    clear hR HRR hd hfit
    go_wp2_with (first
     | (go_at_call 153; refine HSz.out.mono ?_; rintro e w3 ⟨rfl, rfl⟩)
     | (go_at_call 198; refine HWn.out.mono ?_; rintro e w3 ⟨rfl, hb3⟩; have HB3 := hid (HBd.out.trans (hb3.mono HBd.out.size)); have HS3 := hid (HSd.out.below hb3 HSd.out.lt); have HP3 := hid (HPd.out.below hb3 HPd.out.lt); clear hb3))
    have hn1z := HN6.out.2
    have HBk : Hid (Blk (w3.alloc (.cells (uA (ldL cur (pOff p / 8) n1 0)) 23)) w3.heap.size 23 (uA (ldL cur (pOff p / 8) n1 0))) := hid (Blk.new w3 _ _)
    have HB4 : Hid (Below w3.heap.size w3 (w3.alloc (.cells (uA (ldL cur (pOff p / 8) n1 0)) 23))) := hid ((Below.refl _ _).alloc (Nat.le_refl _) _)
    go_loopw [53] (fun i wr => ∃ k : Nat, k ≤ n1 ∧ i = .int .i64 (k : Int) ∧ Hid (Blk wr w3.heap.size 23 (uA (ldL cur (pOff p / 8) n1 k))) ∧ Hid (Below w3.heap.size w3 wr)) (fun i _ => n1 - (Go.RowKit.intOf i).toNat)
    case atStart => exact ⟨0, Nat.zero_le _, rfl, HBk, HB4⟩
    case round =>
     clear HBk HB4
     obtain ⟨k, hk, rfl, HBk, HB4⟩ := hrel
     by_cases hlt : k < n1
     ·have HBl := hid (HB3.out.trans (HB4.out.mono HB3.out.size))
      have HS4 := hid (HS3.out.below HB4.out HS3.out.lt)
      have HP4 := hid (HP3.out.below HB4.out HP3.out.lt)
      have HL4 := hid (HRd.out k wr.drew (HFit.out k hlt) HBl.out.drew)
      have HA4 := hid (HAt.out k wr.drew (by omega))
      have HNx : Hid (Blk (wr.drew.setCell ⟨w3.heap.size, k, none⟩ (.int .u64 (cur (pOff p / 8 + k) : Int))) w3.heap.size 23 (uA (ldL cur (pOff p / 8) n1 (k + 1)))) := hid (by
       have h1 := HBk.out.drew.set_ k (.int .u64 (cur (pOff p / 8 + k) : Int))
       rw [uA_set, ldL_set] at h1
       exact h1)
      have HBx : Hid (Below w3.heap.size w3 (wr.drew.setCell ⟨w3.heap.size, k, none⟩ (.int .u64 (cur (pOff p / 8 + k) : Int)))) := hid (HB4.out.drew.setCell (Nat.le_refl _) _)
      have hz5 : (0 : Int) ≤ (k : Int) := by omega
      have hz6 : (k : Int) < (n1 : Int) := by omega
      have c9 : wr.drew.cell? ⟨w3.heap.size, k, none⟩ = some (.int .u64 (((ldL cur (pOff p / 8) n1 k)[k]'(by rw [ldL_len]; exact hlt) : Nat) : Int)) := by rw [HBk.out.drew.cell]; exact uA_at (by rw [ldL_len]; exact hlt)
      have z9 : wr.drew.frozen? ⟨w3.heap.size, k, none⟩ = false := HBk.out.drew.frozen k
      generalize (ldL cur (pOff p / 8) n1 k)[k]'(by rw [ldL_len]; exact hlt) = old at *
      have hlb : cur (pOff p / 8 + k) < 18446744073709551616 := hbn _
      generalize cur (pOff p / 8 + k) = vk at *
      generalize pOff p + 8 * k = ok at HL4 HA4
      clear HBk HB4
      go_upto_region 18 with fail
      refine wp_region_scriptH (fun w' => w' = wr.drew) 10 [] [(1, 0), (1, 1), (1, 2), (1, 3), (1, 4), (1, 6), (1, 7), (1, 8), (0, 5), (0, 9)] (by kernel_rfl) (by kernel_rfl) rfl ?_
      refine wpScriptH_take (.slice (some ⟨w3.heap.size, 0, none⟩) n1 n1) (by rfl) (by rfl) (fun w' hS => ?_) ?_
      ·go_simp
      simp only [zA, zB, Act.put, zD, zE, zF]
      refine wpScriptH_take (.int .i64 (k : Int)) (by rfl) (by rfl) (fun w' hS => ?_) ?_
      ·go_simp
      simp only [zA, zB, zC, Act.put, zD, zE, zF]
      refine wpScriptH_take (.iface 43 (.pointer (some ⟨d, 0, none⟩))) (by rfl) (by rfl) (fun w' hS => ?_) ?_
      ·subst hS; have f1 : wr.cell? ⟨w.heap.size, 0, none⟩ = some (.iface 43 (.pointer (some ⟨d, 0, none⟩))) := HS4.out.cell 0
       go_simp
      simp only [zA, zB, zC, Act.put, zD, zE, zF]
      refine wpScriptH_take (.int .u64 (p : Int)) (by rfl) (by rfl) (fun w' hS => ?_) ?_
      ·subst hS; have f1 : wr.cell? ⟨w.heap.size + 1, 0, none⟩ = some (.int .u64 (p : Int)) := HP4.out.cell 0
       go_simp
      simp only [zA, zB, zC, Act.put, zD, zE, zF]
      refine wpScriptH_take (.int .i64 (k : Int)) (by rfl) (by rfl) (fun w' hS => ?_) ?_
      ·go_simp
      simp only [zA, zB, zC, Act.put, zD, zE, zF]
      refine wpScriptH_take (.func (.method "Load") #[.iface 43 (.pointer (some ⟨d, 0, none⟩))] #[]) (by rfl) (by rfl) (fun w' hS => ?_) ?_
      ·go_simp
      simp only [zA, zB, zC, Act.put, zD, zE, zF]
      refine wpScriptH_take (.func (.method "Load") #[.iface 43 (.pointer (some ⟨d, 0, none⟩))] #[]) (by rfl) (by rfl) (fun w' hS => ?_) ?_
      ·go_simp
      simp only [zA, zB, zC, Act.put, zD, zE, zF]
      refine wpScriptH_take (.iface 43 (.pointer (some ⟨d, 0, none⟩))) (by rfl) (by rfl) (fun w' hS => ?_) ?_
      ·go_simp
      simp only [zA, zB, zC, Act.put, zD, zE, zF]
      refine wpScriptH_do (by rfl) ?_
      go_wp2_with (go_at_call 24; refine HA4.out.mono ?_; rintro e w2 ⟨rfl, rfl⟩)
      refine ⟨rfl, ?_⟩
      refine wpScriptH_do (by rfl) ?_
      go_wp2_with (go_at_call 291; refine HL4.out.mono ?_; rintro e w2 ⟨rfl, rfl⟩)
      refine ⟨rfl, ?_⟩
      show wpList _ _ _ _ _ _
      simp only [List.drop_succ_cons, List.drop_zero]
      go_wp2
      refine NoPanic.normal ?_
      go_wp2
      go_roundw
      case rel =>
       first
        | exact ⟨k + 1, by omega, by go_num, HNx, HBx⟩
        | (
          repeat apply Exists.intro
          refine ⟨?_, rfl⟩
          exact ⟨k + 1, by omega, by go_num, HNx, HBx⟩)
      case measure => simp [Go.RowKit.intOf]; omega
     ·obtain rfl : k = n1 := by omega
      have HBl := hid (HB3.out.trans (HB4.out.mono HB3.out.size))
      have HS4 := hid (HS3.out.below HB4.out HS3.out.lt)
      have f4 : wr.cell? ⟨w.heap.size, 0, none⟩ = some (.iface 43 (.pointer (some ⟨d, 0, none⟩))) := HS4.out.cell 0
      have HE4 := hid (HEr.out wr HBl.out)
      have HG := hid HB3.out.size
      have HFs : Hid (RetLd w (loadR L cur p) (.returned (.tuple #[.slice (some ⟨w3.heap.size, 0, none⟩) k k, .int .i64 (rest : Int), .int .i64 0])) wr) := hid (by
       rw [HR2.out]
       refine ⟨w3.heap.size, ?_, ?_, HG.out, HBl.out⟩
       ·simp
       ·have h1 := HBk.out
        rw [ldL_end] at h1
        exact h1)
      clear HBk HB4 hlt hk
      go_wp2_with (go_at_call 288; refine HE4.out.mono ?_; rintro e w5 ⟨rfl, rfl⟩)
      go_ret3
      exact HFs.out
end
end
end Go.Proofs.YtnlokpakiambaaaGreatDoor
