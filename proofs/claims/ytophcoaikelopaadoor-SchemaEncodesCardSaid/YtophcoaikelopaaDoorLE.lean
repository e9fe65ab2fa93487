/- Walks: the law SchemaEncodes. -/
import Derived.Test.YtophcoaikelopaaDoorLV
import Derived.Test.YtophcoaikelopaaDoorWV
import Derived.Test.YtophcoaikelopaaDoorOrdB
namespace Go.Proofs.YtophcoaikelopaaDoor
open Go.RowKit
attribute [local go_sem ↓] Go.wp_at_zero Go.wp_at_succ

theorem refBytes_is {w : World} {v : Value} {t : Tbl} (h : TblIs w v t) (hv : valid t = 0) : Calls Tryd.prog 27 #[v] w (RetO w (enc t)) := by
  obtain ⟨A, n, c, A2, n2, c2, rfl, h1, h2, h3, h4⟩ := h
  exact refBytes_good t A A2 n c n2 c2 w h1 h2 hv
theorem parse_is {w : World} {A : Option Addr} {n c base : Nat} {t : Tbl} (ho : w.ownsRow base 5 1 (.slice A n c) n (bv (enc t))) (hT : Tabs w) (hv : valid t = 0) : Calls Tryd.prog 28 #[.slice A n c] w (RetP w (some { t with rows := 0, ents := 0 })) := by
  have hcap := own_cap ho
  have h := parse_any A n c (enc t) w hT (Reads.of_own ho) hcap.1 hcap.2
  rw [parse_enc hv] at h
  exact h
theorem Reads.setU64 {w : World} {B size n : Nat} {A : Option Addr} {xs : List Value} (h : Reads w B size A n xs) (hx : ∀ u ∈ xs, ∀ z, u ≠ .int .u64 z) {p : Addr} {r : Int} (hc : w.cell? p = some (.int .u64 r)) (y : Value) : Reads (w.setCell p y) B size A n xs := by
  refine ⟨h.1, fun hn => ?_⟩
  obtain ⟨ad, hA, hb, hcell⟩ := h.2 hn
  refine ⟨ad, hA, hb, fun j u hu => ?_⟩
  have h1 := hcell j u hu
  rw [World.cell?_setCell_other w p _ y ?_]
  · exact h1
  · intro e
    rw [← e, hc] at h1
    injection h1 with h1
    exact hx u (List.mem_of_getElem? hu) r h1.symm
theorem colCells_no (l : List Col) : ∀ u ∈ colCells l, ∀ z, u ≠ .int .u64 z := by
  intro u hu z
  simp only [colCells, List.mem_flatMap] at hu
  obtain ⟨c, _, hc⟩ := hu
  simp only [Col.cells, List.mem_cons, List.not_mem_nil, or_false] at hc
  rcases hc with rfl | rfl | rfl | rfl | rfl | rfl | rfl | rfl | rfl <;> simp
theorem idxCells_no (l : List Idx) : ∀ u ∈ idxCells l, ∀ z, u ≠ .int .u64 z := by
  intro u hu z
  simp only [idxCells, List.mem_flatMap] at hu
  obtain ⟨c, _, hc⟩ := hu
  simp only [Idx.cells, List.mem_cons, List.not_mem_nil, or_false] at hc
  rcases hc with rfl | rfl <;> simp
theorem TblIs.setU64 {w : World} {v : Value} {t : Tbl} (h : TblIs w v t) {p : Addr} {r : Int} (hc : w.cell? p = some (.int .u64 r)) (y : Value) : TblIs (w.setCell p y) v t := by
  obtain ⟨A, n, c, A2, n2, c2, hv, h1, h2, h3, h4⟩ := h
  have hs : (w.setCell p y).heap.size = w.heap.size := by simp
  exact ⟨A, n, c, A2, n2, c2, hv, by rw [hs]; exact h1.setU64 (colCells_no _) hc y, by rw [hs]; exact h2.setU64 (idxCells_no _) hc y, h3, h4⟩
theorem TblIs.zero {w : World} {x0 x1 x2 x3 x4 x5 : Value} {t : Tbl} (h : TblIs w (.agg #[x0, x1, x2, x3, x4, x5]) t) : TblIs w (.agg #[x0, x1, x2, x3, .int .u64 0, .int .u64 0]) { t with rows := 0, ents := 0 } := by
  obtain ⟨A, n, c, A2, n2, c2, hv, h1, h2, h3, h4⟩ := h
  injection hv with hv
  simp at hv
  obtain ⟨rfl, rfl, rfl, rfl, _, _⟩ := hv
  exact ⟨A, n, c, A2, n2, c2, rfl, h1, h2, h3, h4⟩
def put2 (w : World) (g : Nat) (x4 x5 : Value) : World := (w.setCell ⟨g, 4, none⟩ x4).setCell ⟨g, 5, none⟩ x5
set_option maxRecDepth 100000 in
set_option maxHeartbeats 8000000 in
theorem schemaEncodes_walk (t : Tbl) (v : Value) (w : World) (hT : Tabs w) (hI : TblIs w v t) (hin : TblIn t) :
    Calls Tryd.prog 6 #[v] w fun e w' => e = .returned (.bool true) ∧ Below w.heap.size w w' := by
  obtain ⟨A, n, c, A2, n2, c2, rfl, h1, h2, h3, h4⟩ := hI
  obtain ⟨m, m2, hm, hm2, hF⟩ := few_is h1 h2 h3 h4
  have HF := Lib.hid hF
  have HS := Lib.hid (few_sized hin)
  have HL := Lib.hid (few_len t)
  have HT := Lib.hid hT
  have HFW := fun W => Lib.hid (few_core t.name t.ver (t.rows : Int) (t.ents : Int) A A2 n n2 c c2 m m2 W h3 h4 hm hm2)
  clear h1 h2 hF hT hm hm2 hin
  generalize few t = t' at *
  have hc1 : t'.cols.length ≤ 1000 := by have := HL.out; omega
  have hc2 : t'.idxs.length ≤ 1000 := by have := HL.out; omega
  have HTI : Hid (∀ W, Below w.heap.size w W → TblIs W (.agg #[.string t.name, .int .i64 t.ver, .slice A m c, .slice A2 m2 c2, .int .u64 (t.rows : Int), .int .u64 (t.ents : Int)]) t') := fun W hb => HF.out.below hb
  go_enter Tryd.func6, Tryd.ntmps6
  go_wp2_with fail
  refine (awake_any _ (HT.out.below (bel1 _ _))).mono ?_
  rintro e w1 ⟨rfl, hb1⟩
  have HV1 := Lib.hid ((VInv.new 44 w _).step hb1)
  have t0 : w1.cell? ⟨w.heap.size, 0, none⟩ = some (.string t.name) := HV1.out.arg.cell 0
  have t1 : w1.cell? ⟨w.heap.size, 1, none⟩ = some (.int .i64 t.ver) := HV1.out.arg.cell 1
  have t2 : w1.cell? ⟨w.heap.size, 2, none⟩ = some (.slice A n c) := HV1.out.arg.cell 2
  have t3 : w1.cell? ⟨w.heap.size, 3, none⟩ = some (.slice A2 n2 c2) := HV1.out.arg.cell 3
  have t4 : w1.cell? ⟨w.heap.size, 4, none⟩ = some (.int .u64 (t.rows : Int)) := HV1.out.arg.cell 4
  have t5 : w1.cell? ⟨w.heap.size, 5, none⟩ = some (.int .u64 (t.ents : Int)) := HV1.out.arg.cell 5
  clear hb1
  go_wp2_with fail
  refine (HFW _).out.mono ?_
  rintro e w2 ⟨rfl, hb2⟩
  have HV2 := Lib.hid (HV1.out.step hb2)
  clear hb2 t0 t1 t2 t3 t4 t5 HV1 HFW
  have r0 := HV2.out.arg.cell 0
  have r1 := HV2.out.arg.cell 1
  have r2 := HV2.out.arg.cell 2
  have r3 := HV2.out.arg.cell 3
  have r4 := HV2.out.arg.cell 4
  have r5 := HV2.out.arg.cell 5
  have z0 := HV2.out.arg.frozen 0
  have z1 := HV2.out.arg.frozen 1
  have z2 := HV2.out.arg.frozen 2
  have z3 := HV2.out.arg.frozen 3
  have z4 := HV2.out.arg.frozen 4
  have z5 := HV2.out.arg.frozen 5
  simp at r0 r1 r2 r3 r4 r5
  go_wp2_with fail
  clear r0 r1 r2 r3 r4 r5 z0 z1 z2 z3 z4 z5
  have HV3 := Lib.hid (HV2.out.put6 (.string t.name) (.int .i64 t.ver) (.slice A m c) (.slice A2 m2 c2) (.int .u64 (t.rows : Int)) (.int .u64 (t.ents : Int)))
  change Calls Tryd.prog 18 _ (put6 w2 w.heap.size (.string t.name) (.int .i64 t.ver) (.slice A m c) (.slice A2 m2 c2) (.int .u64 (t.rows : Int)) (.int .u64 (t.ents : Int))) _
  generalize put6 w2 w.heap.size (.string t.name) (.int .i64 t.ver) (.slice A m c) (.slice A2 m2 c2) (.int .u64 (t.rows : Int)) (.int .u64 (t.ents : Int)) = W3 at *
  refine (table_is (HTI.out _ HV3.out.below) hc1 hc2).mono ?_
  rintro e w4 ⟨v4, rfl, hx4, hb4⟩
  have HX4 := Lib.hid hx4
  have HV4 := Lib.hid (HV3.out.step hb4)
  clear hx4 hb4 HV3 HV2
  by_cases hv : valid t' = 0
  case neg =>
    have HBN := Lib.hid (bytes_no HX4.out (HT.out.below HV4.out.below) HS.out hc1 hc2 hv)
    have HRV := fun W => Lib.hid (fun (hb : Below w.heap.size w W) => refValid_is (HTI.out W hb) HS.out hc1 hc2)
    generalize valid t' = V at *
    have e1 : (V != 0) = true := by rw [bne_iff_ne]; exact hv
    have q1 : (V == V) = true := by simp
    clear hv
    go_wp2_with fail
    refine HBN.out.mono ?_
    rintro e w5 ⟨rfl, hb5⟩
    have HV5 := Lib.hid (HV4.out.step hb5)
    have t0 : w5.cell? ⟨w.heap.size, 0, none⟩ = some (.string t.name) := HV5.out.arg.cell 0
    have t1 : w5.cell? ⟨w.heap.size, 1, none⟩ = some (.int .i64 t.ver) := HV5.out.arg.cell 1
    have t2 : w5.cell? ⟨w.heap.size, 2, none⟩ = some (.slice A m c) := HV5.out.arg.cell 2
    have t3 : w5.cell? ⟨w.heap.size, 3, none⟩ = some (.slice A2 m2 c2) := HV5.out.arg.cell 3
    have t4 : w5.cell? ⟨w.heap.size, 4, none⟩ = some (.int .u64 (t.rows : Int)) := HV5.out.arg.cell 4
    have t5 : w5.cell? ⟨w.heap.size, 5, none⟩ = some (.int .u64 (t.ents : Int)) := HV5.out.arg.cell 5
    clear hb5 HBN HV4
    go_wp2_with fail
    refine ((HRV _).out HV5.out.below).mono ?_
    rintro e w6 ⟨rfl, hb6⟩
    have HV6 := Lib.hid (HV5.out.step hb6)
    clear hb6 HV5 t0 t1 t2 t3 t4 t5
    go_wp2
    go_ret
    exact ⟨rfl, HV6.out.below⟩
  have HBG := Lib.hid (bytes_is HX4.out (HT.out.below HV4.out.below) HS.out hv)
  have HRV := fun W => Lib.hid (fun (hb : Below w.heap.size w W) => refValid_is (HTI.out W hb) HS.out hc1 hc2)
  rw [hv] at HRV
  have HRB : Hid (∀ W v, TblIs W v t' → Calls Tryd.prog 27 #[v] W (RetO W (enc t'))) := fun W v h => refBytes_is h hv
  have HPS : Hid (∀ (W : World) (A : Option Addr) (n c base : Nat), W.ownsRow base 5 1 (.slice A n c) n (bv (enc t')) → Tabs W → Calls Tryd.prog 28 #[.slice A n c] W (RetP W (some { t' with rows := 0, ents := 0 }))) := fun W A n c base h1 h2 => parse_is h1 h2 hv
  clear hv
  go_wp2_with fail
  refine HBG.out.mono ?_
  rintro e w5 ⟨AE, nE, cE, rfl, ho5, hb5⟩
  have HV5 := Lib.hid (HV4.out.step hb5)
  have HO5 := Lib.hid ho5
  have t0 : w5.cell? ⟨w.heap.size, 0, none⟩ = some (.string t.name) := HV5.out.arg.cell 0
  have t1 : w5.cell? ⟨w.heap.size, 1, none⟩ = some (.int .i64 t.ver) := HV5.out.arg.cell 1
  have t2 : w5.cell? ⟨w.heap.size, 2, none⟩ = some (.slice A m c) := HV5.out.arg.cell 2
  have t3 : w5.cell? ⟨w.heap.size, 3, none⟩ = some (.slice A2 m2 c2) := HV5.out.arg.cell 3
  have t4 : w5.cell? ⟨w.heap.size, 4, none⟩ = some (.int .u64 (t.rows : Int)) := HV5.out.arg.cell 4
  have t5 : w5.cell? ⟨w.heap.size, 5, none⟩ = some (.int .u64 (t.ents : Int)) := HV5.out.arg.cell 5
  clear hb5 ho5 HBG HV4
  go_wp2_with fail
  refine ((HRV _).out HV5.out.below).mono ?_
  rintro e w6 ⟨rfl, hb6⟩
  have HV6 := Lib.hid (HV5.out.step hb6)
  have HO6 := Lib.hid (own_below HO5.out hb6)
  clear hb6 HV5 HO5 t0 t1 t2 t3 t4 t5 HRV
  have hcv6 := conv_str cE (Reads.of_own HO6.out).drew
  have HCV : Hid (∀ W, Below w6.heap.size w6 W → (convert 60 9 (.slice AE nE cE)).run Tryd.prog W = .ok (.string ⟨(enc t').toArray⟩) W) := fun W hb => conv_str cE ((Reads.of_own HO6.out).below hb)
  have HCV2 : Hid (∀ (W : World) (A : Option Addr) (n c base : Nat), W.ownsRow base 5 1 (.slice A n c) n (bv (enc t')) → (convert 60 9 (.slice A n c)).run Tryd.prog W = .ok (.string ⟨(enc t').toArray⟩) W) := fun W A n c base h => conv_str c (Reads.of_own h)
  generalize (⟨(enc t').toArray⟩ : ByteArray) = sE at *
  have qs : (sE.toList != sE.toList) = false := by simp
  have HV := Lib.hid HV6.out.drew
  have t0 : w6.drew.cell? ⟨w.heap.size, 0, none⟩ = some (.string t.name) := HV.out.arg.cell 0
  have t1 : w6.drew.cell? ⟨w.heap.size, 1, none⟩ = some (.int .i64 t.ver) := HV.out.arg.cell 1
  have t2 : w6.drew.cell? ⟨w.heap.size, 2, none⟩ = some (.slice A m c) := HV.out.arg.cell 2
  have t3 : w6.drew.cell? ⟨w.heap.size, 3, none⟩ = some (.slice A2 m2 c2) := HV.out.arg.cell 3
  have t4 : w6.drew.cell? ⟨w.heap.size, 4, none⟩ = some (.int .u64 (t.rows : Int)) := HV.out.arg.cell 4
  have t5 : w6.drew.cell? ⟨w.heap.size, 5, none⟩ = some (.int .u64 (t.ents : Int)) := HV.out.arg.cell 5
  go_wp2
  refine wp_region_held_mid [_, _] (fun w' => (convert 60 9 (.slice AE nE cE)).run Tryd.prog w' = .ok (.string sE) w' ∧ w'.cell? ⟨w.heap.size, 0, none⟩ = some (.string t.name) ∧ w'.cell? ⟨w.heap.size, 1, none⟩ = some (.int .i64 t.ver) ∧ w'.cell? ⟨w.heap.size, 2, none⟩ = some (.slice A m c) ∧ w'.cell? ⟨w.heap.size, 3, none⟩ = some (.slice A2 m2 c2) ∧ w'.cell? ⟨w.heap.size, 4, none⟩ = some (.int .u64 (t.rows : Int)) ∧ w'.cell? ⟨w.heap.size, 5, none⟩ = some (.int .u64 (t.ents : Int))) 6 8 (by kernel_rfl) (by kernel_rfl) rfl rfl ⟨hcv6, t0, t1, t2, t3, t4, t5⟩ ?_
  simp only [List.take_succ_cons, List.take_zero]
  refine wpHeld_take (.int .i64 0) (by rfl) (fun w' hS => ?_) ?_
  · obtain ⟨sc, s0, s1, s2, s3, s4, s5⟩ := hS
    go_simp
  simp only [Act.put, List.setIfInBounds_toArray, List.set_cons_zero, List.set_cons_succ]
  refine wpHeld_take (.bool false) (by rfl) (fun w' hS => ?_) ?_
  · obtain ⟨sc, s0, s1, s2, s3, s4, s5⟩ := hS
    go_simp
  simp only [Act.put, List.setIfInBounds_toArray, List.set_cons_zero, List.set_cons_succ]
  refine wpHeld_take (.bool false) (by rfl) (fun w' hS => ?_) ?_
  · obtain ⟨sc, s0, s1, s2, s3, s4, s5⟩ := hS
    go_simp
  simp only [Act.put, List.setIfInBounds_toArray, List.set_cons_zero, List.set_cons_succ]
  refine wpHeld_take (.slice AE nE cE) (by rfl) (fun w' hS => ?_) ?_
  · obtain ⟨sc, s0, s1, s2, s3, s4, s5⟩ := hS
    go_simp
  simp only [Act.put, List.setIfInBounds_toArray, List.set_cons_zero, List.set_cons_succ]
  refine wpHeld_take (.string sE) (by rfl) (fun w' hS => ?_) ?_
  · obtain ⟨sc, s0, s1, s2, s3, s4, s5⟩ := hS
    go_simp
  simp only [Act.put, List.setIfInBounds_toArray, List.set_cons_zero, List.set_cons_succ]
  refine wpHeld_take (.agg #[.string t.name, .int .i64 t.ver, .slice A m c, .slice A2 m2 c2, .int .u64 (t.rows : Int), .int .u64 (t.ents : Int)]) (by rfl) (fun w' hS => ?_) ?_
  · obtain ⟨sc, s0, s1, s2, s3, s4, s5⟩ := hS
    go_simp
  simp only [Act.put, List.setIfInBounds_toArray, List.set_cons_zero, List.set_cons_succ]
  show wpList _ _ _ _ _ _
  go_wp2_with (go_at_call 27; refine (HRB.out _ _ (HTI.out _ HV.out.below)).mono ?_; rintro e wx ⟨Ag, ng, cg, rfl, hog, hbg⟩; have HVx := Lib.hid (HV.out.step hbg); have HO7 := Lib.hid (own_below HO6.out.drew hbg); have hcv7 := HCV.out wx (below_drew_of hbg); have hcv8 := HCV2.out _ _ _ _ _ hog; have x0 : wx.cell? ⟨w.heap.size, 0, none⟩ = some (.string t.name) := HVx.out.arg.cell 0; have x1 : wx.cell? ⟨w.heap.size, 1, none⟩ = some (.int .i64 t.ver) := HVx.out.arg.cell 1; have x2 : wx.cell? ⟨w.heap.size, 2, none⟩ = some (.slice A m c) := HVx.out.arg.cell 2; have x3 : wx.cell? ⟨w.heap.size, 3, none⟩ = some (.slice A2 m2 c2) := HVx.out.arg.cell 3; have x4 : wx.cell? ⟨w.heap.size, 4, none⟩ = some (.int .u64 (t.rows : Int)) := HVx.out.arg.cell 4; have x5 : wx.cell? ⟨w.heap.size, 5, none⟩ = some (.int .u64 (t.ents : Int)) := HVx.out.arg.cell 5; clear hog hbg)
  refine ⟨⟨hcv7, x0, x1, x2, x3, x4, x5⟩, ?_⟩
  show wpList _ _ _ _ _ _
  go_wp2
  refine ⟨⟨hcv7, x0, x1, x2, x3, x4, x5⟩, ?_⟩
  show wpList _ _ _ _ _ _
  go_wp2
  refine NoPanic.normal ?_
  clear hcv6 hcv7 hcv8 t0 t1 t2 t3 t4 t5 HV6 HV HO6
  go_wp2_with fail
  have HTI2 : Hid (∀ W, Below w.heap.size w W → TblIs W (.agg #[.string t.name, .int .i64 t.ver, .slice A m c, .slice A2 m2 c2, .int .u64 0, .int .u64 0]) { t' with rows := 0, ents := 0 }) := fun W hb => (HTI.out W hb).zero
  have hc3 : ({ t' with rows := 0, ents := 0 } : Tbl).cols.length ≤ 1000 := hc1
  have hc4 : ({ t' with rows := 0, ents := 0 } : Tbl).idxs.length ≤ 1000 := hc2
  have HPP := Lib.hid (HPS.out wx AE nE cE _ HO7.out (HT.out.below HVx.out.below))
  generalize ({ t' with rows := 0, ents := 0 } : Tbl) = t'' at *
  refine HPP.out.mono ?_
  rintro e wy ⟨vy, rfl, hy, hby⟩
  have HVy := Lib.hid (HVx.out.step hby)
  have HY := Lib.hid hy
  obtain ⟨Ay, ny, cy, Ay2, ny2, cy2, rfl, _, _, _, _⟩ := hy
  clear hby HPP x0 x1 x2 x3 x4 x5 HVx HO7 HPS HRB HCV HCV2
  have r4 : ∀ o, (wy.alloc o).cell? ⟨w.heap.size, 4, none⟩ = some (.int .u64 (t.rows : Int)) := fun o => (HVy.out.alloc o).arg.cell 4
  have z4 : ∀ o, (wy.alloc o).frozen? ⟨w.heap.size, 4, none⟩ = false := fun o => (HVy.out.alloc o).arg.frozen 4
  have r5 : ∀ o, ((wy.setCell ⟨w.heap.size, 4, none⟩ (.int .u64 0)).alloc o).cell? ⟨w.heap.size, 5, none⟩ = some (.int .u64 (t.ents : Int)) := fun o => ((HVy.out.set_ 4 (.int .u64 0)).alloc o).arg.cell 5
  have z5 : ∀ o, ((wy.setCell ⟨w.heap.size, 4, none⟩ (.int .u64 0)).alloc o).frozen? ⟨w.heap.size, 5, none⟩ = false := fun o => ((HVy.out.set_ 4 (.int .u64 0)).alloc o).arg.frozen 5
  have hwlt : w.heap.size < wy.heap.size := HVy.out.arg.lt
  go_wp2
  have HV9 : Hid (VInv 44 w ((put2 wy w.heap.size (.int .u64 0) (.int .u64 0)).alloc (.cells #[.string t''.name, .int .i64 t''.ver, .slice Ay ny cy, .slice Ay2 ny2 cy2, .int .u64 (t''.rows : Int), .int .u64 (t''.ents : Int)] 51)) #[.string t.name, .int .i64 t.ver, .slice A m c, .slice A2 m2 c2, .int .u64 0, .int .u64 0]) := ((HVy.out.set_ 4 (.int .u64 0)).set_ 5 (.int .u64 0)).alloc _
  have hsz : (put2 wy w.heap.size (.int .u64 0) (.int .u64 0)).heap.size = wy.heap.size := by simp [put2]
  have HQ9 : Hid (Blk ((put2 wy w.heap.size (.int .u64 0) (.int .u64 0)).alloc (.cells #[.string t''.name, .int .i64 t''.ver, .slice Ay ny cy, .slice Ay2 ny2 cy2, .int .u64 (t''.rows : Int), .int .u64 (t''.ents : Int)] 51)) wy.heap.size 51 #[.string t''.name, .int .i64 t''.ver, .slice Ay ny cy, .slice Ay2 ny2 cy2, .int .u64 (t''.rows : Int), .int .u64 (t''.ents : Int)]) := by
    have hq := Blk.new (put2 wy w.heap.size (.int .u64 0) (.int .u64 0)) 51 #[.string t''.name, .int .i64 t''.ver, .slice Ay ny cy, .slice Ay2 ny2 cy2, .int .u64 (t''.rows : Int), .int .u64 (t''.ents : Int)]
    rw [hsz] at hq
    exact hq
  have HY9 : Hid (TblIs ((put2 wy w.heap.size (.int .u64 0) (.int .u64 0)).alloc (.cells #[.string t''.name, .int .i64 t''.ver, .slice Ay ny cy, .slice Ay2 ny2 cy2, .int .u64 (t''.rows : Int), .int .u64 (t''.ents : Int)] 51)) (.agg #[.string t''.name, .int .i64 t''.ver, .slice Ay ny cy, .slice Ay2 ny2 cy2, .int .u64 (t''.rows : Int), .int .u64 (t''.ents : Int)]) t'') := by
    have k4 : wy.cell? ⟨w.heap.size, 4, none⟩ = some (.int .u64 (t.rows : Int)) := HVy.out.arg.cell 4
    have k5 : (wy.setCell ⟨w.heap.size, 4, none⟩ (.int .u64 0)).cell? ⟨w.heap.size, 5, none⟩ = some (.int .u64 (t.ents : Int)) := (HVy.out.set_ 4 (.int .u64 0)).arg.cell 5
    exact ((HY.out.setU64 k4 _).setU64 k5 _).below ((Below.refl _ _).alloc (Nat.le_refl _) _)
  clear r4 r5 z4 z5 hsz
  show Code.wp _ _ _ _ ((put2 wy w.heap.size (.int .u64 0) (.int .u64 0)).alloc (.cells #[.string t''.name, .int .i64 t''.ver, .slice Ay ny cy, .slice Ay2 ny2 cy2, .int .u64 (t''.rows : Int), .int .u64 (t''.ents : Int)] 51))
  generalize ((put2 wy w.heap.size (.int .u64 0) (.int .u64 0)).alloc (.cells #[.string t''.name, .int .i64 t''.ver, .slice Ay ny cy, .slice Ay2 ny2 cy2, .int .u64 (t''.rows : Int), .int .u64 (t''.ents : Int)] 51)) = W9 at *
  generalize wy.heap.size = gq at *
  have HV := Lib.hid HV9.out.drew
  have HQ := Lib.hid HQ9.out.drew
  have HYd : Hid (TblIs W9.drew (.agg #[.string t''.name, .int .i64 t''.ver, .slice Ay ny cy, .slice Ay2 ny2 cy2, .int .u64 (t''.rows : Int), .int .u64 (t''.ents : Int)]) t'') := HY9.out
  have t0 : W9.drew.cell? ⟨w.heap.size, 0, none⟩ = some (.string t.name) := HV.out.arg.cell 0
  have t1 : W9.drew.cell? ⟨w.heap.size, 1, none⟩ = some (.int .i64 t.ver) := HV.out.arg.cell 1
  have t2 : W9.drew.cell? ⟨w.heap.size, 2, none⟩ = some (.slice A m c) := HV.out.arg.cell 2
  have t3 : W9.drew.cell? ⟨w.heap.size, 3, none⟩ = some (.slice A2 m2 c2) := HV.out.arg.cell 3
  have t4 : W9.drew.cell? ⟨w.heap.size, 4, none⟩ = some (.int .u64 0) := HV.out.arg.cell 4
  have t5 : W9.drew.cell? ⟨w.heap.size, 5, none⟩ = some (.int .u64 0) := HV.out.arg.cell 5
  have q0 : W9.drew.cell? ⟨gq, 0, none⟩ = some (.string t''.name) := HQ.out.cell 0
  have q1 : W9.drew.cell? ⟨gq, 1, none⟩ = some (.int .i64 t''.ver) := HQ.out.cell 1
  have q2 : W9.drew.cell? ⟨gq, 2, none⟩ = some (.slice Ay ny cy) := HQ.out.cell 2
  have q3 : W9.drew.cell? ⟨gq, 3, none⟩ = some (.slice Ay2 ny2 cy2) := HQ.out.cell 3
  have q4 : W9.drew.cell? ⟨gq, 4, none⟩ = some (.int .u64 (t''.rows : Int)) := HQ.out.cell 4
  have q5 : W9.drew.cell? ⟨gq, 5, none⟩ = some (.int .u64 (t''.ents : Int)) := HQ.out.cell 5
  go_region_held3 (fun w' => (w'.cell? ⟨w.heap.size, 0, none⟩ = some (.string t.name) ∧ w'.cell? ⟨w.heap.size, 1, none⟩ = some (.int .i64 t.ver) ∧ w'.cell? ⟨w.heap.size, 2, none⟩ = some (.slice A m c) ∧ w'.cell? ⟨w.heap.size, 3, none⟩ = some (.slice A2 m2 c2) ∧ w'.cell? ⟨w.heap.size, 4, none⟩ = some (.int .u64 0) ∧ w'.cell? ⟨w.heap.size, 5, none⟩ = some (.int .u64 0)) ∧ w'.cell? ⟨gq, 0, none⟩ = some (.string t''.name) ∧ w'.cell? ⟨gq, 1, none⟩ = some (.int .i64 t''.ver) ∧ w'.cell? ⟨gq, 2, none⟩ = some (.slice Ay ny cy) ∧ w'.cell? ⟨gq, 3, none⟩ = some (.slice Ay2 ny2 cy2) ∧ w'.cell? ⟨gq, 4, none⟩ = some (.int .u64 (t''.rows : Int)) ∧ w'.cell? ⟨gq, 5, none⟩ = some (.int .u64 (t''.ents : Int))) (first | go_keep | (refine ⟨⟨?_, ?_, ?_, ?_, ?_, ?_⟩, ?_, ?_, ?_, ?_, ?_, ?_⟩ <;> assumption))
    ((first
      | (go_at_call 30; refine (back_is HYd.out hc3 hc4).mono ?_; rintro e wz ⟨vz, rfl, hz, hbz⟩; have HZ := Lib.hid hz; have HVz := Lib.hid (HV.out.step hbz); have HQz := Lib.hid (HQ.out.below hbz HQ.out.lt); have a0 : wz.cell? ⟨w.heap.size, 0, none⟩ = some (.string t.name) := HVz.out.arg.cell 0; have a1 : wz.cell? ⟨w.heap.size, 1, none⟩ = some (.int .i64 t.ver) := HVz.out.arg.cell 1; have a2 : wz.cell? ⟨w.heap.size, 2, none⟩ = some (.slice A m c) := HVz.out.arg.cell 2; have a3 : wz.cell? ⟨w.heap.size, 3, none⟩ = some (.slice A2 m2 c2) := HVz.out.arg.cell 3; have a4 : wz.cell? ⟨w.heap.size, 4, none⟩ = some (.int .u64 0) := HVz.out.arg.cell 4; have a5 : wz.cell? ⟨w.heap.size, 5, none⟩ = some (.int .u64 0) := HVz.out.arg.cell 5; have b0 : wz.cell? ⟨gq, 0, none⟩ = some (.string t''.name) := HQz.out.cell 0; have b1 : wz.cell? ⟨gq, 1, none⟩ = some (.int .i64 t''.ver) := HQz.out.cell 1; have b2 : wz.cell? ⟨gq, 2, none⟩ = some (.slice Ay ny cy) := HQz.out.cell 2; have b3 : wz.cell? ⟨gq, 3, none⟩ = some (.slice Ay2 ny2 cy2) := HQz.out.cell 3; have b4 : wz.cell? ⟨gq, 4, none⟩ = some (.int .u64 (t''.rows : Int)) := HQz.out.cell 4; have b5 : wz.cell? ⟨gq, 5, none⟩ = some (.int .u64 (t''.ents : Int)) := HQz.out.cell 5; clear hz hbz)
      | (go_at_call 29; refine (same_is HZ.out (HTI2.out _ HVz.out.below) hc3 hc4).mono ?_; rintro e wk ⟨rfl, hbk⟩; have HVk := Lib.hid (HVz.out.step hbk); have HQk := Lib.hid (HQz.out.below hbk HQz.out.lt); have kc0 : wk.cell? ⟨w.heap.size, 0, none⟩ = some (.string t.name) := HVk.out.arg.cell 0; have kc1 : wk.cell? ⟨w.heap.size, 1, none⟩ = some (.int .i64 t.ver) := HVk.out.arg.cell 1; have kc2 : wk.cell? ⟨w.heap.size, 2, none⟩ = some (.slice A m c) := HVk.out.arg.cell 2; have kc3 : wk.cell? ⟨w.heap.size, 3, none⟩ = some (.slice A2 m2 c2) := HVk.out.arg.cell 3; have kc4 : wk.cell? ⟨w.heap.size, 4, none⟩ = some (.int .u64 0) := HVk.out.arg.cell 4; have kc5 : wk.cell? ⟨w.heap.size, 5, none⟩ = some (.int .u64 0) := HVk.out.arg.cell 5; have kd0 : wk.cell? ⟨gq, 0, none⟩ = some (.string t''.name) := HQk.out.cell 0; have kd1 : wk.cell? ⟨gq, 1, none⟩ = some (.int .i64 t''.ver) := HQk.out.cell 1; have kd2 : wk.cell? ⟨gq, 2, none⟩ = some (.slice Ay ny cy) := HQk.out.cell 2; have kd3 : wk.cell? ⟨gq, 3, none⟩ = some (.slice Ay2 ny2 cy2) := HQk.out.cell 3; have kd4 : wk.cell? ⟨gq, 4, none⟩ = some (.int .u64 (t''.rows : Int)) := HQk.out.cell 4; have kd5 : wk.cell? ⟨gq, 5, none⟩ = some (.int .u64 (t''.ents : Int)) := HQk.out.cell 5; clear hbk)))
  go_wp2
  go_ret
  exact ⟨rfl, HVk.out.below⟩
theorem schemaEncodes_law (w : World) (hT : Tabs w) {v1 : Value} (t : Tbl) (h1 : TblIs w v1 t ∧ TblIn t) :
    Calls Tryd.prog 6 #[v1] w fun e w' => e = .returned (.bool true) ∧ Below w.heap.size w w' := schemaEncodes_walk t v1 w hT h1.1 h1.2
end Go.Proofs.YtophcoaikelopaaDoor
