/- Walks: the law SchemaAdds. -/
import Derived.Test.YtophcoaikelopaaDoorXD
import Derived.Test.YtophcoaikelopaaDoorXE
import Derived.Test.YtophcoaikelopaaDoorOrdC
namespace Go.Proofs.YtophcoaikelopaaDoor
open Go.RowKit
attribute [local go_sem ↓] Go.wp_at_zero Go.wp_at_succ
theorem add_is {w : World} {v : Value} {t : Tbl} {l : List Col} {B : Option Addr} {m d : Nat} (h : TblIs w v t) (hT : Tabs w) (hs : Sized t) (hsl : ∀ c ∈ l, c.name.size ≤ 9223372036854775807 ∧ c.d.text.size ≤ 9223372036854775807) (hl : Reads w w.heap.size 9 B m (colCells l)) (hc : t.cols.length ≤ 100) (hx : t.idxs.length ≤ 100) (hm : m ≤ 100) : Calls Tryd.prog 32 #[v, .slice B m d] w (RetAdd w (addT t l)) := by
  obtain ⟨A, n, c, A2, n2, c2, rfl, h1, h2, h3, h4⟩ := h
  have e1 := h1.1; rw [colCells_len] at e1
  have e2 := h2.1; rw [idxCells_len] at e2
  exact add_any t l A A2 B n c n2 c2 m d w hT hs hsl h1 h2 hl (by omega) (by omega) hm
theorem refAdd_is {w : World} {v : Value} {t : Tbl} {l : List Col} {B : Option Addr} {m d : Nat} (h : TblIs w v t) (hs : Sized t) (hsl : ∀ c ∈ l, c.name.size ≤ 9223372036854775807 ∧ c.d.text.size ≤ 9223372036854775807) (hl : Reads w w.heap.size 9 B m (colCells l)) (hc : t.cols.length ≤ 100) (hx : t.idxs.length ≤ 100) (hm : m ≤ 100) : Calls Tryd.prog 33 #[v, .slice B m d] w (RetAdd w (addT t l)) := by
  obtain ⟨A, n, c, A2, n2, c2, rfl, h1, h2, h3, h4⟩ := h
  have e1 := h1.1; rw [colCells_len] at e1
  have e2 := h2.1; rw [idxCells_len] at e2
  exact refAdd_any t l A A2 B n c n2 c2 m d w hs hsl h1 h2 hl (by omega) (by omega) hm h4
theorem addT_len (t : Tbl) (l : List Col) (h1 : t.cols.length ≤ 100) (h2 : t.idxs.length ≤ 100) (h3 : l.length ≤ 100) : (addT t l).1.cols.length ≤ 1000 ∧ (addT t l).1.idxs.length ≤ 1000 := by
  unfold addT
  split
  · exact ⟨Nat.zero_le _, Nat.zero_le _⟩
  split
  · exact ⟨Nat.zero_le _, Nat.zero_le _⟩
  split
  · exact ⟨Nat.zero_le _, Nat.zero_le _⟩
  · simp only [nextT, List.length_append, List.length_map]; omega
theorem reads_take {w : World} {b mB : Nat} {B : Option Addr} {l : List Col} (h : Reads w b 9 B mB (colCells l)) (k : Nat) (hk : k ≤ mB) (hk0 : 0 < k) : Reads w b 9 B k (colCells (l.take k)) := by
  have hlen := h.1
  rw [colCells_len] at hlen
  refine ⟨by rw [colCells_len, List.length_take]; omega, fun _ => ?_⟩
  obtain ⟨ad, hA, hb, hc⟩ := h.2 (by omega)
  refine ⟨ad, hA, hb, fun j u hu => hc j u ?_⟩
  have hs : colCells l = colCells (l.take k) ++ colCells (l.drop k) := by rw [← colCells_app, List.take_append_drop]
  have hj : j < (colCells (l.take k)).length := (List.getElem?_eq_some_iff.1 hu).1
  rw [hs, List.getElem?_append_left hj]
  exact hu
set_option maxRecDepth 100000 in
set_option maxHeartbeats 16000000 in
theorem schemaAdds_walk (t : Tbl) (v : Value) (l : List Col) (B : Option Addr) (mB d : Nat) (w : World) (hT : Tabs w) (hI : TblIs w v t) (hin : TblIn t) (hl : Reads w w.heap.size 9 B mB (colCells l)) (hmd : mB ≤ d) (hcin : ∀ c ∈ l, ColIn c) :
    Calls Tryd.prog 8 #[v, .slice B mB d] w fun e w' => e = .returned (.bool true) ∧ Below w.heap.size w w' := by
  obtain ⟨A, n, c, A2, n2, c2, rfl, h1, h2, h3, h4⟩ := hI
  obtain ⟨m, m2, hm, hm2, hF⟩ := few_is h1 h2 h3 h4
  have HF := Lib.hid hF
  have HS := Lib.hid (few_sized hin)
  have HL := Lib.hid (few_len t)
  have HT := Lib.hid hT
  have HLl := Lib.hid hl
  have HLen := Lib.hid (show l.length = mB by have := hl.1; rw [colCells_len] at this; omega)
  have HIn : Hid (∀ c ∈ l, c.name.size ≤ 9223372036854775807 ∧ c.d.text.size ≤ 9223372036854775807) := fun c hc => ⟨(hcin c hc).1, (hcin c hc).2.1⟩
  have HFW := fun W => Lib.hid (few_core t.name t.ver (t.rows : Int) (t.ents : Int) A A2 n n2 c c2 m m2 W h3 h4 hm hm2)
  clear h1 h2 hF hT hm hm2 hin hl hcin
  generalize few t = t' at *
  have hc1 : t'.cols.length ≤ 1000 := by have := HL.out; omega
  have hc2 : t'.idxs.length ≤ 1000 := by have := HL.out; omega
  have HTI : Hid (∀ W, Below w.heap.size w W → TblIs W (.agg #[.string t.name, .int .i64 t.ver, .slice A m c, .slice A2 m2 c2, .int .u64 (t.rows : Int), .int .u64 (t.ents : Int)]) t') := fun W hb => HF.out.below hb
  go_enter Tryd.func8, Tryd.ntmps8
  go_wp2_with fail
  refine (awake_any _ (HT.out.below (bel1 _ _))).mono ?_
  rintro e w1 ⟨rfl, hb1⟩
  have HV1 := Lib.hid ((VInv.new 44 w _).step hb1)
  have t0 : w1.cell? ⟨w.heap.size, 0, none⟩ = some (.string t.name) := HV1.out.arg.cell 0
  have t1 : w1.cell? ⟨w.heap.size, 1, none⟩ = some (.int .i64 t.ver) := HV1.out.arg.cell 1
  have t2 : w1.cell? ⟨w.heap.size, 2, none⟩ = some (.slice A n c) := HV1.out.arg.cell 2
  have t3 : w1.cell? ⟨w.heap.size, 3, none⟩ = some (.slice A2 n2 c2) := HV1.out.arg.cell 3
  have t4 : w1.cell? ⟨w.heap.size, 4, none⟩ = some (.int .u64 (t.rows : Int)) := HV1.out.arg.cell 4
  have t5 : w1.cell? ⟨w.heap.size, 5, none⟩ = some (.int .u64 (t.ents : Int)) := HV1.out.arg.cell 5
  clear hb1
  go_wp2_with fail
  refine (HFW _).out.mono ?_
  rintro e w2 ⟨rfl, hb2⟩
  have HV2 := Lib.hid (HV1.out.step hb2)
  clear hb2 t0 t1 t2 t3 t4 t5 HV1 HFW
  have r0 := HV2.out.arg.cell 0
  have r1 := HV2.out.arg.cell 1
  have r2 := HV2.out.arg.cell 2
  have r3 := HV2.out.arg.cell 3
  have r4 := HV2.out.arg.cell 4
  have r5 := HV2.out.arg.cell 5
  have z0 := HV2.out.arg.frozen 0
  have z1 := HV2.out.arg.frozen 1
  have z2 := HV2.out.arg.frozen 2
  have z3 := HV2.out.arg.frozen 3
  have z4 := HV2.out.arg.frozen 4
  have z5 := HV2.out.arg.frozen 5
  simp at r0 r1 r2 r3 r4 r5
  by_cases hB : 4 < mB
  · have e1 : decide ((4 : Int) < (mB : Int)) = true := decide_eq_true (by omega)
    have e2 : decide (4 < mB) = true := decide_eq_true hB
    have hd4 : (4 : Int) ≤ (d : Int) := by omega
    have HL4 := Lib.hid (reads_take HLl.out 4 (by omega) (by omega))
    have HLen4 : Hid ((l.take 4).length = 4) := show _ = _ by rw [List.length_take, HLen.out]; omega
    have HIn4 : Hid (∀ c ∈ l.take 4, c.name.size ≤ 9223372036854775807 ∧ c.d.text.size ≤ 9223372036854775807) := fun c hc => HIn.out c (List.mem_of_mem_take hc)
    clear HLl HLen HIn
    generalize l.take 4 = l4 at *
    go_wp2_with fail
    clear r0 r1 r2 r3 r4 r5 z0 z1 z2 z3 z4 z5
    have HV3 := Lib.hid (HV2.out.put6 (.string t.name) (.int .i64 t.ver) (.slice A m c) (.slice A2 m2 c2) (.int .u64 (t.rows : Int)) (.int .u64 (t.ents : Int)))
    change Calls Tryd.prog 18 _ (put6 w2 w.heap.size (.string t.name) (.int .i64 t.ver) (.slice A m c) (.slice A2 m2 c2) (.int .u64 (t.rows : Int)) (.int .u64 (t.ents : Int))) _
    generalize put6 w2 w.heap.size (.string t.name) (.int .i64 t.ver) (.slice A m c) (.slice A2 m2 c2) (.int .u64 (t.rows : Int)) (.int .u64 (t.ents : Int)) = W3 at *
    refine (table_is (HTI.out _ HV3.out.below) hc1 hc2).mono ?_
    rintro e w4 ⟨v4, rfl, hx4, hb4⟩
    obtain ⟨Ax, nx, cx, Bx, mx, dx, rfl, x1, x2, x3, x4⟩ := id hx4
    have HX4 := Lib.hid hx4
    have HV4 := Lib.hid (HV3.out.step hb4)
    clear hx4 hb4 HV3 HV2 x1 x2 x3 x4
    have HK0 : Hid (Below w4.heap.size w4 (w4.alloc (.cells #[.string t'.name, .int .i64 t'.ver, .slice Ax nx cx, .slice Bx mx dx, .int .u64 (t'.rows : Int), .int .u64 (t'.ents : Int)] 51)) ∧ Blk (w4.alloc (.cells #[.string t'.name, .int .i64 t'.ver, .slice Ax nx cx, .slice Bx mx dx, .int .u64 (t'.rows : Int), .int .u64 (t'.ents : Int)] 51)) w4.heap.size 51 #[.string t'.name, .int .i64 t'.ver, .slice Ax nx cx, .slice Bx mx dx, .int .u64 (t'.rows : Int), .int .u64 (t'.ents : Int)]) := ⟨(Below.refl _ _).alloc (Nat.le_refl _) _, Blk.new _ _ _⟩
    obtain ⟨i0, hi0, hz0, hz1, hz2⟩ := info_parts info32
    go_wp2
    go_loopw [6, 26] (fun s i wr => ∃ (k : Nat) (A' : Option Addr) (q c' : Nat), k ≤ 4 ∧ i = .int .i64 k ∧ s = .slice A' q c' ∧ q = k ∧ Hid (Below w4.heap.size w4 wr ∧ Blk wr w4.heap.size 51 #[.string t'.name, .int .i64 t'.ver, .slice Ax nx cx, .slice Bx mx dx, .int .u64 (t'.rows : Int), .int .u64 (t'.ents : Int)]) ∧ Hid (wr.ownsRow (w4.heap.size + 1) 32 9 (.slice A' q c') q (colCells ((l4).take k)))) (fun _ i _ => 4 - (intOf i).toNat)
    case atStart => exact ⟨0, _, _, _, Nat.zero_le _, rfl, rfl, rfl, HK0, World.ownsRow_nil _ _ _ _⟩
    case round =>
      clear HK0
      obtain ⟨k, A', q, c', hk, rfl, rfl, hq, HK, HO⟩ := hrel
      have hq1 : q ≤ k := by omega
      have hq2 : k ≤ q := by omega
      clear hq
      by_cases hlt : k < 4
      · have hbw := HV4.out.below.trans (HK.out.1.mono HV4.out.below.size)
        obtain ⟨hl, b1, off, hA, hbB, f0, f1, f2, f3, f4, f5, f6, f7, f8⟩ := col_facts (HL4.out.below hbw) hlt
        subst hA
        have HTK : Hid ((l4).take k ++ [(l4)[k]] = (l4).take (k + 1)) := (List.take_succ_eq_append_getElem hl).symm
        generalize (l4)[k] = cc at *
        have HCOL := Lib.hid (fun W => column_any cc.name cc.ty cc.null cc.since cc.d.ty cc.d.int cc.d.null cc.d.bool cc.d.text W)
        have hz0' : (0 : Int) ≤ (k : Int) := by omega
        have hz1' : (k : Int) < (4 : Int) := by omega
        clear hbw
        go_wp2_with (first
          | (go_at_call 10; refine (HCOL.out _).mono ?_; rintro e wa ⟨rfl, hba⟩; have HKa : Hid (Below w4.heap.size w4 wa ∧ Blk wa w4.heap.size 51 #[.string t'.name, .int .i64 t'.ver, .slice Ax nx cx, .slice Bx mx dx, .int .u64 (t'.rows : Int), .int .u64 (t'.ents : Int)]) := ⟨(HK.out.1.alloc HK.out.1.size _).trans (hba.mono (HK.out.1.alloc HK.out.1.size _).size), (HK.out.2.alloc _).below hba (HK.out.2.alloc _).lt⟩; have HOa := Lib.hid (own_below (HO.out.alloc _) hba); clear hba)
          | (at_builtin; refine wpList_app _ (.tmp 30) (.tmp 33) 47 rfl rfl (w4.heap.size + 1) 32 i0 _ 9 72 Tryd.underlying47 hi0 hz0 hz1 hz2 rfl ?q1 (.slice A' q c') q (colCells ((l4).take k)) rfl ?q0 (wa.heap.size + 1) (some ⟨wa.heap.size, 0, none⟩) 1 1 cc.cells rfl ?q5 (cells_one _) ?q2 ?q3 ?q4 ?_; (case q1 => omega); (case q0 => exact HOa.out.alloc _); (case q5 => exact row_reads_at _ _ (by simp) _ 1 9 32 _ rfl rfl); (case q2 => (unfold maxLen; omega)); (case q3 => omega); (case q4 => (have := HKa.out.2.lt; simp; omega)); intro A5 n5 c5 w8 hn5 ho5 hg5 hb5; rw [← colCells_snoc, HTK.out] at ho5; have HO8 := Lib.hid ho5; have HK8 : Hid (Below w4.heap.size w4 w8 ∧ Blk w8 w4.heap.size 51 #[.string t'.name, .int .i64 t'.ver, .slice Ax nx cx, .slice Bx mx dx, .int .u64 (t'.rows : Int), .int .u64 (t'.ents : Int)]) := ⟨(HKa.out.1.alloc HKa.out.1.size _).trans (hb5.mono (Nat.le_succ _)), (HKa.out.2.alloc _).below hb5 (Nat.lt_succ_self _)⟩; have HN5 := Lib.hid hn5; clear hn5 ho5 hg5 hb5))
        go_roundw
        case rel => exact ⟨k + 1, _, _, _, by omega, by go_num, rfl, by have := HN5.out; omega, HK8, HO8⟩
        case measure => simp [intOf]; omega
      · obtain rfl : 4 = k := by omega
        rw [List.take_of_length_le (by rw [HLen4.out]; exact Nat.le_refl _)] at HO
        have HAD : Hid (Calls Tryd.prog 32 #[.agg #[.string t'.name, .int .i64 t'.ver, .slice Ax nx cx, .slice Bx mx dx, .int .u64 (t'.rows : Int), .int .u64 (t'.ents : Int)], .slice A' q c'] wr (RetAdd wr (addT t' (l4)))) := add_is (HX4.out.below HK.out.1) (HT.out.below (HV4.out.below.trans (HK.out.1.mono HV4.out.below.size))) HS.out HIn4.out (Reads.of_own HO.out) (by have := HL.out; omega) (by have := HL.out; omega) (by omega)
        have HRD := Lib.hid (fun W (hb : Below w.heap.size w W) => refAdd_is (HTI.out W hb) HS.out HIn4.out ((HL4.out.below hb).more hb.size) (d := d) (by have := HL.out; omega) (by have := HL.out; omega) (by omega))
        have HRL := Lib.hid (addT_len t' (l4) (by have := HL.out; omega) (by have := HL.out; omega) (by have := HLen4.out; omega))
        generalize addT t' (l4) = R at *
        have HW := Lib.hid (HV4.out.step HK.out.1)
        have x0 : wr.cell? ⟨w4.heap.size, 0, none⟩ = some (.string t'.name) := HK.out.2.cell 0
        have x1 : wr.cell? ⟨w4.heap.size, 1, none⟩ = some (.int .i64 t'.ver) := HK.out.2.cell 1
        have x2 : wr.cell? ⟨w4.heap.size, 2, none⟩ = some (.slice Ax nx cx) := HK.out.2.cell 2
        have x3 : wr.cell? ⟨w4.heap.size, 3, none⟩ = some (.slice Bx mx dx) := HK.out.2.cell 3
        have x4 : wr.cell? ⟨w4.heap.size, 4, none⟩ = some (.int .u64 (t'.rows : Int)) := HK.out.2.cell 4
        have x5 : wr.cell? ⟨w4.heap.size, 5, none⟩ = some (.int .u64 (t'.ents : Int)) := HK.out.2.cell 5
        go_wp2_with fail
        refine HAD.out.mono ?_
        rintro e w5 ⟨v5, rfl, h5, hb5⟩
        obtain ⟨Ag, ng, cg, Bg, mg, dg, rfl, y1, y2, y3, y4⟩ := id h5
        have HG5 := Lib.hid h5
        have HX5 := Lib.hid ((HX4.out.below HK.out.1).below hb5)
        have HB5 := Lib.hid (HK.out.2.below hb5 HK.out.2.lt)
        have HW5 := Lib.hid ((HW.out.step hb5).alloc (.cells #[.string R.1.name, .int .i64 R.1.ver, .slice Ag ng cg, .slice Bg mg dg, .int .u64 (R.1.rows : Int), .int .u64 (R.1.ents : Int)] 51))
        have a0 : ∀ o, (w5.alloc o).cell? ⟨w.heap.size, 0, none⟩ = some (.string t.name) := fun o => ((HW.out.step hb5).alloc o).arg.cell 0
        have a1 : ∀ o, (w5.alloc o).cell? ⟨w.heap.size, 1, none⟩ = some (.int .i64 t.ver) := fun o => ((HW.out.step hb5).alloc o).arg.cell 1
        have a2 : ∀ o, (w5.alloc o).cell? ⟨w.heap.size, 2, none⟩ = some (.slice A m c) := fun o => ((HW.out.step hb5).alloc o).arg.cell 2
        have a3 : ∀ o, (w5.alloc o).cell? ⟨w.heap.size, 3, none⟩ = some (.slice A2 m2 c2) := fun o => ((HW.out.step hb5).alloc o).arg.cell 3
        have a4 : ∀ o, (w5.alloc o).cell? ⟨w.heap.size, 4, none⟩ = some (.int .u64 (t.rows : Int)) := fun o => ((HW.out.step hb5).alloc o).arg.cell 4
        have a5 : ∀ o, (w5.alloc o).cell? ⟨w.heap.size, 5, none⟩ = some (.int .u64 (t.ents : Int)) := fun o => ((HW.out.step hb5).alloc o).arg.cell 5
        clear h5 hb5 y1 y2 y3 y4 HX4 HK HO HW HAD x0 x1 x2 x3 x4 x5
        go_wp2_with fail
        refine (HRD.out _ HW5.out.below).mono ?_
        rintro e w6 ⟨v6, rfl, h6, hb6⟩
        obtain ⟨Aq, nq, cq, Bq, mq, dq, rfl, y1, y2, y3, y4⟩ := id h6
        have HQ6 := Lib.hid (h6.below ((Below.refl _ _).alloc (Nat.le_refl _) (.cells #[.string R.1.name, .int .i64 R.1.ver, .slice Aq nq cq, .slice Bq mq dq, .int .u64 (R.1.rows : Int), .int .u64 (R.1.ents : Int)] 44)))
        have HG6 := Lib.hid (((HG5.out.below ((Below.refl _ _).alloc (Nat.le_refl _) _)).below hb6).below ((Below.refl _ _).alloc (Nat.le_refl _) (.cells #[.string R.1.name, .int .i64 R.1.ver, .slice Aq nq cq, .slice Bq mq dq, .int .u64 (R.1.rows : Int), .int .u64 (R.1.ents : Int)] 44)))
        have HX6 := Lib.hid (((HX5.out.below ((Below.refl _ _).alloc (Nat.le_refl _) _)).below hb6).below ((Below.refl _ _).alloc (Nat.le_refl _) (.cells #[.string R.1.name, .int .i64 R.1.ver, .slice Aq nq cq, .slice Bq mq dq, .int .u64 (R.1.rows : Int), .int .u64 (R.1.ents : Int)] 44)))
        have HC6 := Lib.hid (((HB5.out.alloc _).below hb6 (HB5.out.alloc _).lt).alloc (.cells #[.string R.1.name, .int .i64 R.1.ver, .slice Aq nq cq, .slice Bq mq dq, .int .u64 (R.1.rows : Int), .int .u64 (R.1.ents : Int)] 44))
        have HCG := Lib.hid (((Blk.new w5 51 #[.string R.1.name, .int .i64 R.1.ver, .slice Ag ng cg, .slice Bg mg dg, .int .u64 (R.1.rows : Int), .int .u64 (R.1.ents : Int)]).below hb6 (Blk.new w5 51 #[.string R.1.name, .int .i64 R.1.ver, .slice Ag ng cg, .slice Bg mg dg, .int .u64 (R.1.rows : Int), .int .u64 (R.1.ents : Int)]).lt).alloc (.cells #[.string R.1.name, .int .i64 R.1.ver, .slice Aq nq cq, .slice Bq mq dq, .int .u64 (R.1.rows : Int), .int .u64 (R.1.ents : Int)] 44))
        have HCQ := Lib.hid (Blk.new w6 44 #[.string R.1.name, .int .i64 R.1.ver, .slice Aq nq cq, .slice Bq mq dq, .int .u64 (R.1.rows : Int), .int .u64 (R.1.ents : Int)])
        have HW6 := Lib.hid ((HW5.out.step hb6).alloc (.cells #[.string R.1.name, .int .i64 R.1.ver, .slice Aq nq cq, .slice Bq mq dq, .int .u64 (R.1.rows : Int), .int .u64 (R.1.ents : Int)] 44))
        have HT6 := Lib.hid (HTI.out _ HW6.out.below)
        have q1 : (R.2 == R.2) = true := by simp
        clear h6 hb6 y1 y2 y3 y4 HX5 HG5 HB5 HW5 HRD a0 a1 a2 a3 a4 a5
        go_wp2_with fail
        generalize w6.alloc (.cells #[.string R.1.name, .int .i64 R.1.ver, .slice Aq nq cq, .slice Bq mq dq, .int .u64 (R.1.rows : Int), .int .u64 (R.1.ents : Int)] 44) = W at *
        have HBD : Hid (Below W.heap.size W W.drew) := (Below.refl _ _).drew
        refine wp_region_script (fun w' => Below W.heap.size W w') 14 [(true, 0), (true, 1), (true, 2), (true, 3), (true, 4), (true, 6), (false, 5), (false, 7), (true, 8), (true, 9), (true, 10), (true, 12), (false, 11), (false, 13)] (by kernel_rfl) (by kernel_rfl) HBD.out ?_
        refine wpScript_take (.int .i64 R.2) (by rfl) (by rfl) (fun w' hS => ?_) ?_
        · go_simp
        simp only [List.getElem_toArray, List.getElem_cons_zero, Act.put, List.setIfInBounds_toArray, List.set_cons_zero, List.set_cons_succ]
        refine wpScript_take (.int .i64 R.2) (by rfl) (by rfl) (fun w' hS => ?_) ?_
        · go_simp
        simp only [List.getElem_toArray, List.getElem_cons_zero, List.getElem_cons_succ, Act.put, List.setIfInBounds_toArray, List.set_cons_zero, List.set_cons_succ]
        refine wpScript_take (.bool true) (by rfl) (by rfl) (fun w' hS => ?_) ?_
        · go_simp
        simp only [List.getElem_toArray, List.getElem_cons_zero, List.getElem_cons_succ, Act.put, List.setIfInBounds_toArray, List.set_cons_zero, List.set_cons_succ]
        refine wpScript_take (.bool true) (by rfl) (by rfl) (fun w' hS => ?_) ?_
        · go_simp
        simp only [List.getElem_toArray, List.getElem_cons_zero, List.getElem_cons_succ, Act.put, List.setIfInBounds_toArray, List.set_cons_zero, List.set_cons_succ]
        refine wpScript_take (.agg #[.string R.1.name, .int .i64 R.1.ver, .slice Ag ng cg, .slice Bg mg dg, .int .u64 (R.1.rows : Int), .int .u64 (R.1.ents : Int)]) (by rfl) (by rfl) (fun w' hS => ?_) ?_
        · have f0 : w'.cell? ⟨w5.heap.size, 0, none⟩ = some (.string R.1.name) := (HCG.out.below hS HCG.out.lt).cell 0; have f1 : w'.cell? ⟨w5.heap.size, 1, none⟩ = some (.int .i64 R.1.ver) := (HCG.out.below hS HCG.out.lt).cell 1; have f2 : w'.cell? ⟨w5.heap.size, 2, none⟩ = some (.slice Ag ng cg) := (HCG.out.below hS HCG.out.lt).cell 2; have f3 : w'.cell? ⟨w5.heap.size, 3, none⟩ = some (.slice Bg mg dg) := (HCG.out.below hS HCG.out.lt).cell 3; have f4 : w'.cell? ⟨w5.heap.size, 4, none⟩ = some (.int .u64 (R.1.rows : Int)) := (HCG.out.below hS HCG.out.lt).cell 4; have f5 : w'.cell? ⟨w5.heap.size, 5, none⟩ = some (.int .u64 (R.1.ents : Int)) := (HCG.out.below hS HCG.out.lt).cell 5
          go_simp
        simp only [List.getElem_toArray, List.getElem_cons_zero, List.getElem_cons_succ, Act.put, List.setIfInBounds_toArray, List.set_cons_zero, List.set_cons_succ]
        refine wpScript_take (.agg #[.string R.1.name, .int .i64 R.1.ver, .slice Aq nq cq, .slice Bq mq dq, .int .u64 (R.1.rows : Int), .int .u64 (R.1.ents : Int)]) (by rfl) (by rfl) (fun w' hS => ?_) ?_
        · have f0 : w'.cell? ⟨w6.heap.size, 0, none⟩ = some (.string R.1.name) := (HCQ.out.below hS HCQ.out.lt).cell 0; have f1 : w'.cell? ⟨w6.heap.size, 1, none⟩ = some (.int .i64 R.1.ver) := (HCQ.out.below hS HCQ.out.lt).cell 1; have f2 : w'.cell? ⟨w6.heap.size, 2, none⟩ = some (.slice Aq nq cq) := (HCQ.out.below hS HCQ.out.lt).cell 2; have f3 : w'.cell? ⟨w6.heap.size, 3, none⟩ = some (.slice Bq mq dq) := (HCQ.out.below hS HCQ.out.lt).cell 3; have f4 : w'.cell? ⟨w6.heap.size, 4, none⟩ = some (.int .u64 (R.1.rows : Int)) := (HCQ.out.below hS HCQ.out.lt).cell 4; have f5 : w'.cell? ⟨w6.heap.size, 5, none⟩ = some (.int .u64 (R.1.ents : Int)) := (HCQ.out.below hS HCQ.out.lt).cell 5
          go_simp
        simp only [List.getElem_toArray, List.getElem_cons_zero, List.getElem_cons_succ, Act.put, List.setIfInBounds_toArray, List.set_cons_zero, List.set_cons_succ]
        refine wpScript_do (by rfl) ?_
        go_wp2_with fail
        refine (back_is (HG6.out.below HBD.out) (by have := HRL.out; omega) (by have := HRL.out; omega)).mono ?_
        rintro e w7 ⟨v7, rfl, h7, hb7⟩
        have HB7 := Lib.hid (HBD.out.trans (hb7.mono HBD.out.size))
        have HY := Lib.hid h7
        clear h7 hb7
        go_wp2_with fail
        refine ⟨HB7.out, ?_⟩
        refine wpScript_do (by rfl) ?_
        go_wp2_with fail
        refine (same_is HY.out (HQ6.out.below HB7.out) (by have := HRL.out; omega) (by have := HRL.out; omega)).mono ?_
        rintro e w8 ⟨rfl, hb8⟩
        have HB8 := Lib.hid (HB7.out.trans (hb8.mono HB7.out.size))
        clear hb8
        go_wp2_with fail
        refine ⟨HB8.out, ?_⟩
        refine wpScript_take (.bool true) (by rfl) (by rfl) (fun w' hS => ?_) ?_
        · go_simp
        simp only [List.getElem_toArray, List.getElem_cons_zero, List.getElem_cons_succ, Act.put, List.setIfInBounds_toArray, List.set_cons_zero, List.set_cons_succ]
        refine wpScript_take (.bool true) (by rfl) (by rfl) (fun w' hS => ?_) ?_
        · go_simp
        simp only [List.getElem_toArray, List.getElem_cons_zero, List.getElem_cons_succ, Act.put, List.setIfInBounds_toArray, List.set_cons_zero, List.set_cons_succ]
        refine wpScript_take (.agg #[.string t'.name, .int .i64 t'.ver, .slice Ax nx cx, .slice Bx mx dx, .int .u64 (t'.rows : Int), .int .u64 (t'.ents : Int)]) (by rfl) (by rfl) (fun w' hS => ?_) ?_
        · have f0 : w'.cell? ⟨w4.heap.size, 0, none⟩ = some (.string t'.name) := (HC6.out.below hS HC6.out.lt).cell 0; have f1 : w'.cell? ⟨w4.heap.size, 1, none⟩ = some (.int .i64 t'.ver) := (HC6.out.below hS HC6.out.lt).cell 1; have f2 : w'.cell? ⟨w4.heap.size, 2, none⟩ = some (.slice Ax nx cx) := (HC6.out.below hS HC6.out.lt).cell 2; have f3 : w'.cell? ⟨w4.heap.size, 3, none⟩ = some (.slice Bx mx dx) := (HC6.out.below hS HC6.out.lt).cell 3; have f4 : w'.cell? ⟨w4.heap.size, 4, none⟩ = some (.int .u64 (t'.rows : Int)) := (HC6.out.below hS HC6.out.lt).cell 4; have f5 : w'.cell? ⟨w4.heap.size, 5, none⟩ = some (.int .u64 (t'.ents : Int)) := (HC6.out.below hS HC6.out.lt).cell 5
          go_simp
        simp only [List.getElem_toArray, List.getElem_cons_zero, List.getElem_cons_succ, Act.put, List.setIfInBounds_toArray, List.set_cons_zero, List.set_cons_succ]
        refine wpScript_take (.agg #[.string t.name, .int .i64 t.ver, .slice A m c, .slice A2 m2 c2, .int .u64 (t.rows : Int), .int .u64 (t.ents : Int)]) (by rfl) (by rfl) (fun w' hS => ?_) ?_
        · have f0 : w'.cell? ⟨w.heap.size, 0, none⟩ = some (.string t.name) := (HW6.out.arg.below hS HW6.out.arg.lt).cell 0; have f1 : w'.cell? ⟨w.heap.size, 1, none⟩ = some (.int .i64 t.ver) := (HW6.out.arg.below hS HW6.out.arg.lt).cell 1; have f2 : w'.cell? ⟨w.heap.size, 2, none⟩ = some (.slice A m c) := (HW6.out.arg.below hS HW6.out.arg.lt).cell 2; have f3 : w'.cell? ⟨w.heap.size, 3, none⟩ = some (.slice A2 m2 c2) := (HW6.out.arg.below hS HW6.out.arg.lt).cell 3; have f4 : w'.cell? ⟨w.heap.size, 4, none⟩ = some (.int .u64 (t.rows : Int)) := (HW6.out.arg.below hS HW6.out.arg.lt).cell 4; have f5 : w'.cell? ⟨w.heap.size, 5, none⟩ = some (.int .u64 (t.ents : Int)) := (HW6.out.arg.below hS HW6.out.arg.lt).cell 5
          go_simp
        simp only [List.getElem_toArray, List.getElem_cons_zero, List.getElem_cons_succ, Act.put, List.setIfInBounds_toArray, List.set_cons_zero, List.set_cons_succ]
        refine wpScript_do (by rfl) ?_
        go_wp2_with fail
        refine (back_is (HX6.out.below HB8.out) hc1 hc2).mono ?_
        rintro e w9 ⟨v9, rfl, h9, hb9⟩
        have HB9 := Lib.hid (HB8.out.trans (hb9.mono HB8.out.size))
        have HZ := Lib.hid h9
        clear h9 hb9
        go_wp2_with fail
        refine ⟨HB9.out, ?_⟩
        refine wpScript_do (by rfl) ?_
        go_wp2_with fail
        refine (same_is HZ.out (HT6.out.below HB9.out) hc1 hc2).mono ?_
        rintro e wz ⟨rfl, hbz⟩
        have HBZ := Lib.hid (HB9.out.trans (hbz.mono HB9.out.size))
        clear hbz
        go_wp2_with fail
        refine ⟨HBZ.out, ?_⟩
        show wpList _ _ _ _ _ _
        simp only [List.drop_succ_cons, List.drop_zero]
        go_wp2_with fail
        refine NoPanic.normal ?_
        go_wp2
        go_ret
        exact ⟨rfl, (HW6.out.step HBZ.out).below⟩
  · have e1 : decide ((4 : Int) < (mB : Int)) = false := decide_eq_false (by omega)
    have e2 : decide (4 < mB) = false := decide_eq_false hB
    have hmB : mB ≤ 4 := by omega
    go_wp2_with fail
    clear r0 r1 r2 r3 r4 r5 z0 z1 z2 z3 z4 z5
    have HV3 := Lib.hid (HV2.out.put6 (.string t.name) (.int .i64 t.ver) (.slice A m c) (.slice A2 m2 c2) (.int .u64 (t.rows : Int)) (.int .u64 (t.ents : Int)))
    change Calls Tryd.prog 18 _ (put6 w2 w.heap.size (.string t.name) (.int .i64 t.ver) (.slice A m c) (.slice A2 m2 c2) (.int .u64 (t.rows : Int)) (.int .u64 (t.ents : Int))) _
    generalize put6 w2 w.heap.size (.string t.name) (.int .i64 t.ver) (.slice A m c) (.slice A2 m2 c2) (.int .u64 (t.rows : Int)) (.int .u64 (t.ents : Int)) = W3 at *
    refine (table_is (HTI.out _ HV3.out.below) hc1 hc2).mono ?_
    rintro e w4 ⟨v4, rfl, hx4, hb4⟩
    obtain ⟨Ax, nx, cx, Bx, mx, dx, rfl, x1, x2, x3, x4⟩ := id hx4
    have HX4 := Lib.hid hx4
    have HV4 := Lib.hid (HV3.out.step hb4)
    clear hx4 hb4 HV3 HV2 x1 x2 x3 x4
    have HK0 : Hid (Below w4.heap.size w4 (w4.alloc (.cells #[.string t'.name, .int .i64 t'.ver, .slice Ax nx cx, .slice Bx mx dx, .int .u64 (t'.rows : Int), .int .u64 (t'.ents : Int)] 51)) ∧ Blk (w4.alloc (.cells #[.string t'.name, .int .i64 t'.ver, .slice Ax nx cx, .slice Bx mx dx, .int .u64 (t'.rows : Int), .int .u64 (t'.ents : Int)] 51)) w4.heap.size 51 #[.string t'.name, .int .i64 t'.ver, .slice Ax nx cx, .slice Bx mx dx, .int .u64 (t'.rows : Int), .int .u64 (t'.ents : Int)]) := ⟨(Below.refl _ _).alloc (Nat.le_refl _) _, Blk.new _ _ _⟩
    obtain ⟨i0, hi0, hz0, hz1, hz2⟩ := info_parts info32
    go_wp2
    go_loopw [6, 26] (fun s i wr => ∃ (k : Nat) (A' : Option Addr) (q c' : Nat), k ≤ mB ∧ i = .int .i64 k ∧ s = .slice A' q c' ∧ q = k ∧ Hid (Below w4.heap.size w4 wr ∧ Blk wr w4.heap.size 51 #[.string t'.name, .int .i64 t'.ver, .slice Ax nx cx, .slice Bx mx dx, .int .u64 (t'.rows : Int), .int .u64 (t'.ents : Int)]) ∧ Hid (wr.ownsRow (w4.heap.size + 1) 32 9 (.slice A' q c') q (colCells ((l).take k)))) (fun _ i _ => mB - (intOf i).toNat)
    case atStart => exact ⟨0, _, _, _, Nat.zero_le _, rfl, rfl, rfl, HK0, World.ownsRow_nil _ _ _ _⟩
    case round =>
      clear HK0
      obtain ⟨k, A', q, c', hk, rfl, rfl, hq, HK, HO⟩ := hrel
      have hq1 : q ≤ k := by omega
      have hq2 : k ≤ q := by omega
      clear hq
      by_cases hlt : k < mB
      · have hbw := HV4.out.below.trans (HK.out.1.mono HV4.out.below.size)
        obtain ⟨hl, b1, off, hA, hbB, f0, f1, f2, f3, f4, f5, f6, f7, f8⟩ := col_facts (HLl.out.below hbw) hlt
        subst hA
        have HTK : Hid ((l).take k ++ [(l)[k]] = (l).take (k + 1)) := (List.take_succ_eq_append_getElem hl).symm
        generalize (l)[k] = cc at *
        have HCOL := Lib.hid (fun W => column_any cc.name cc.ty cc.null cc.since cc.d.ty cc.d.int cc.d.null cc.d.bool cc.d.text W)
        have hz0' : (0 : Int) ≤ (k : Int) := by omega
        have hz1' : (k : Int) < (mB : Int) := by omega
        clear hbw
        go_wp2_with (first
          | (go_at_call 10; refine (HCOL.out _).mono ?_; rintro e wa ⟨rfl, hba⟩; have HKa : Hid (Below w4.heap.size w4 wa ∧ Blk wa w4.heap.size 51 #[.string t'.name, .int .i64 t'.ver, .slice Ax nx cx, .slice Bx mx dx, .int .u64 (t'.rows : Int), .int .u64 (t'.ents : Int)]) := ⟨(HK.out.1.alloc HK.out.1.size _).trans (hba.mono (HK.out.1.alloc HK.out.1.size _).size), (HK.out.2.alloc _).below hba (HK.out.2.alloc _).lt⟩; have HOa := Lib.hid (own_below (HO.out.alloc _) hba); clear hba)
          | (at_builtin; refine wpList_app _ (.tmp 30) (.tmp 33) 47 rfl rfl (w4.heap.size + 1) 32 i0 _ 9 72 Tryd.underlying47 hi0 hz0 hz1 hz2 rfl ?q1 (.slice A' q c') q (colCells ((l).take k)) rfl ?q0 (wa.heap.size + 1) (some ⟨wa.heap.size, 0, none⟩) 1 1 cc.cells rfl ?q5 (cells_one _) ?q2 ?q3 ?q4 ?_; (case q1 => omega); (case q0 => exact HOa.out.alloc _); (case q5 => exact row_reads_at _ _ (by simp) _ 1 9 32 _ rfl rfl); (case q2 => (unfold maxLen; omega)); (case q3 => omega); (case q4 => (have := HKa.out.2.lt; simp; omega)); intro A5 n5 c5 w8 hn5 ho5 hg5 hb5; rw [← colCells_snoc, HTK.out] at ho5; have HO8 := Lib.hid ho5; have HK8 : Hid (Below w4.heap.size w4 w8 ∧ Blk w8 w4.heap.size 51 #[.string t'.name, .int .i64 t'.ver, .slice Ax nx cx, .slice Bx mx dx, .int .u64 (t'.rows : Int), .int .u64 (t'.ents : Int)]) := ⟨(HKa.out.1.alloc HKa.out.1.size _).trans (hb5.mono (Nat.le_succ _)), (HKa.out.2.alloc _).below hb5 (Nat.lt_succ_self _)⟩; have HN5 := Lib.hid hn5; clear hn5 ho5 hg5 hb5))
        go_roundw
        case rel => exact ⟨k + 1, _, _, _, by omega, by go_num, rfl, by have := HN5.out; omega, HK8, HO8⟩
        case measure => simp [intOf]; omega
      · obtain rfl : mB = k := by omega
        rw [List.take_of_length_le (by rw [HLen.out]; exact Nat.le_refl _)] at HO
        have HAD : Hid (Calls Tryd.prog 32 #[.agg #[.string t'.name, .int .i64 t'.ver, .slice Ax nx cx, .slice Bx mx dx, .int .u64 (t'.rows : Int), .int .u64 (t'.ents : Int)], .slice A' q c'] wr (RetAdd wr (addT t' (l)))) := add_is (HX4.out.below HK.out.1) (HT.out.below (HV4.out.below.trans (HK.out.1.mono HV4.out.below.size))) HS.out HIn.out (Reads.of_own HO.out) (by have := HL.out; omega) (by have := HL.out; omega) (by omega)
        have HRD := Lib.hid (fun W (hb : Below w.heap.size w W) => refAdd_is (HTI.out W hb) HS.out HIn.out ((HLl.out.below hb).more hb.size) (d := d) (by have := HL.out; omega) (by have := HL.out; omega) (by omega))
        have HRL := Lib.hid (addT_len t' (l) (by have := HL.out; omega) (by have := HL.out; omega) (by have := HLen.out; omega))
        generalize addT t' (l) = R at *
        have HW := Lib.hid (HV4.out.step HK.out.1)
        have x0 : wr.cell? ⟨w4.heap.size, 0, none⟩ = some (.string t'.name) := HK.out.2.cell 0
        have x1 : wr.cell? ⟨w4.heap.size, 1, none⟩ = some (.int .i64 t'.ver) := HK.out.2.cell 1
        have x2 : wr.cell? ⟨w4.heap.size, 2, none⟩ = some (.slice Ax nx cx) := HK.out.2.cell 2
        have x3 : wr.cell? ⟨w4.heap.size, 3, none⟩ = some (.slice Bx mx dx) := HK.out.2.cell 3
        have x4 : wr.cell? ⟨w4.heap.size, 4, none⟩ = some (.int .u64 (t'.rows : Int)) := HK.out.2.cell 4
        have x5 : wr.cell? ⟨w4.heap.size, 5, none⟩ = some (.int .u64 (t'.ents : Int)) := HK.out.2.cell 5
        go_wp2_with fail
        refine HAD.out.mono ?_
        rintro e w5 ⟨v5, rfl, h5, hb5⟩
        obtain ⟨Ag, ng, cg, Bg, mg, dg, rfl, y1, y2, y3, y4⟩ := id h5
        have HG5 := Lib.hid h5
        have HX5 := Lib.hid ((HX4.out.below HK.out.1).below hb5)
        have HB5 := Lib.hid (HK.out.2.below hb5 HK.out.2.lt)
        have HW5 := Lib.hid ((HW.out.step hb5).alloc (.cells #[.string R.1.name, .int .i64 R.1.ver, .slice Ag ng cg, .slice Bg mg dg, .int .u64 (R.1.rows : Int), .int .u64 (R.1.ents : Int)] 51))
        have a0 : ∀ o, (w5.alloc o).cell? ⟨w.heap.size, 0, none⟩ = some (.string t.name) := fun o => ((HW.out.step hb5).alloc o).arg.cell 0
        have a1 : ∀ o, (w5.alloc o).cell? ⟨w.heap.size, 1, none⟩ = some (.int .i64 t.ver) := fun o => ((HW.out.step hb5).alloc o).arg.cell 1
        have a2 : ∀ o, (w5.alloc o).cell? ⟨w.heap.size, 2, none⟩ = some (.slice A m c) := fun o => ((HW.out.step hb5).alloc o).arg.cell 2
        have a3 : ∀ o, (w5.alloc o).cell? ⟨w.heap.size, 3, none⟩ = some (.slice A2 m2 c2) := fun o => ((HW.out.step hb5).alloc o).arg.cell 3
        have a4 : ∀ o, (w5.alloc o).cell? ⟨w.heap.size, 4, none⟩ = some (.int .u64 (t.rows : Int)) := fun o => ((HW.out.step hb5).alloc o).arg.cell 4
        have a5 : ∀ o, (w5.alloc o).cell? ⟨w.heap.size, 5, none⟩ = some (.int .u64 (t.ents : Int)) := fun o => ((HW.out.step hb5).alloc o).arg.cell 5
        clear h5 hb5 y1 y2 y3 y4 HX4 HK HO HW HAD x0 x1 x2 x3 x4 x5
        go_wp2_with fail
        refine (HRD.out _ HW5.out.below).mono ?_
        rintro e w6 ⟨v6, rfl, h6, hb6⟩
        obtain ⟨Aq, nq, cq, Bq, mq, dq, rfl, y1, y2, y3, y4⟩ := id h6
        have HQ6 := Lib.hid (h6.below ((Below.refl _ _).alloc (Nat.le_refl _) (.cells #[.string R.1.name, .int .i64 R.1.ver, .slice Aq nq cq, .slice Bq mq dq, .int .u64 (R.1.rows : Int), .int .u64 (R.1.ents : Int)] 44)))
        have HG6 := Lib.hid (((HG5.out.below ((Below.refl _ _).alloc (Nat.le_refl _) _)).below hb6).below ((Below.refl _ _).alloc (Nat.le_refl _) (.cells #[.string R.1.name, .int .i64 R.1.ver, .slice Aq nq cq, .slice Bq mq dq, .int .u64 (R.1.rows : Int), .int .u64 (R.1.ents : Int)] 44)))
        have HX6 := Lib.hid (((HX5.out.below ((Below.refl _ _).alloc (Nat.le_refl _) _)).below hb6).below ((Below.refl _ _).alloc (Nat.le_refl _) (.cells #[.string R.1.name, .int .i64 R.1.ver, .slice Aq nq cq, .slice Bq mq dq, .int .u64 (R.1.rows : Int), .int .u64 (R.1.ents : Int)] 44)))
        have HC6 := Lib.hid (((HB5.out.alloc _).below hb6 (HB5.out.alloc _).lt).alloc (.cells #[.string R.1.name, .int .i64 R.1.ver, .slice Aq nq cq, .slice Bq mq dq, .int .u64 (R.1.rows : Int), .int .u64 (R.1.ents : Int)] 44))
        have HCG := Lib.hid (((Blk.new w5 51 #[.string R.1.name, .int .i64 R.1.ver, .slice Ag ng cg, .slice Bg mg dg, .int .u64 (R.1.rows : Int), .int .u64 (R.1.ents : Int)]).below hb6 (Blk.new w5 51 #[.string R.1.name, .int .i64 R.1.ver, .slice Ag ng cg, .slice Bg mg dg, .int .u64 (R.1.rows : Int), .int .u64 (R.1.ents : Int)]).lt).alloc (.cells #[.string R.1.name, .int .i64 R.1.ver, .slice Aq nq cq, .slice Bq mq dq, .int .u64 (R.1.rows : Int), .int .u64 (R.1.ents : Int)] 44))
        have HCQ := Lib.hid (Blk.new w6 44 #[.string R.1.name, .int .i64 R.1.ver, .slice Aq nq cq, .slice Bq mq dq, .int .u64 (R.1.rows : Int), .int .u64 (R.1.ents : Int)])
        have HW6 := Lib.hid ((HW5.out.step hb6).alloc (.cells #[.string R.1.name, .int .i64 R.1.ver, .slice Aq nq cq, .slice Bq mq dq, .int .u64 (R.1.rows : Int), .int .u64 (R.1.ents : Int)] 44))
        have HT6 := Lib.hid (HTI.out _ HW6.out.below)
        have q1 : (R.2 == R.2) = true := by simp
        clear h6 hb6 y1 y2 y3 y4 HX5 HG5 HB5 HW5 HRD a0 a1 a2 a3 a4 a5
        go_wp2_with fail
        generalize w6.alloc (.cells #[.string R.1.name, .int .i64 R.1.ver, .slice Aq nq cq, .slice Bq mq dq, .int .u64 (R.1.rows : Int), .int .u64 (R.1.ents : Int)] 44) = W at *
        have HBD : Hid (Below W.heap.size W W.drew) := (Below.refl _ _).drew
        refine wp_region_script (fun w' => Below W.heap.size W w') 14 [(true, 0), (true, 1), (true, 2), (true, 3), (true, 4), (true, 6), (false, 5), (false, 7), (true, 8), (true, 9), (true, 10), (true, 12), (false, 11), (false, 13)] (by kernel_rfl) (by kernel_rfl) HBD.out ?_
        refine wpScript_take (.int .i64 R.2) (by rfl) (by rfl) (fun w' hS => ?_) ?_
        · go_simp
        simp only [List.getElem_toArray, List.getElem_cons_zero, Act.put, List.setIfInBounds_toArray, List.set_cons_zero, List.set_cons_succ]
        refine wpScript_take (.int .i64 R.2) (by rfl) (by rfl) (fun w' hS => ?_) ?_
        · go_simp
        simp only [List.getElem_toArray, List.getElem_cons_zero, List.getElem_cons_succ, Act.put, List.setIfInBounds_toArray, List.set_cons_zero, List.set_cons_succ]
        refine wpScript_take (.bool true) (by rfl) (by rfl) (fun w' hS => ?_) ?_
        · go_simp
        simp only [List.getElem_toArray, List.getElem_cons_zero, List.getElem_cons_succ, Act.put, List.setIfInBounds_toArray, List.set_cons_zero, List.set_cons_succ]
        refine wpScript_take (.bool true) (by rfl) (by rfl) (fun w' hS => ?_) ?_
        · go_simp
        simp only [List.getElem_toArray, List.getElem_cons_zero, List.getElem_cons_succ, Act.put, List.setIfInBounds_toArray, List.set_cons_zero, List.set_cons_succ]
        refine wpScript_take (.agg #[.string R.1.name, .int .i64 R.1.ver, .slice Ag ng cg, .slice Bg mg dg, .int .u64 (R.1.rows : Int), .int .u64 (R.1.ents : Int)]) (by rfl) (by rfl) (fun w' hS => ?_) ?_
        · have f0 : w'.cell? ⟨w5.heap.size, 0, none⟩ = some (.string R.1.name) := (HCG.out.below hS HCG.out.lt).cell 0; have f1 : w'.cell? ⟨w5.heap.size, 1, none⟩ = some (.int .i64 R.1.ver) := (HCG.out.below hS HCG.out.lt).cell 1; have f2 : w'.cell? ⟨w5.heap.size, 2, none⟩ = some (.slice Ag ng cg) := (HCG.out.below hS HCG.out.lt).cell 2; have f3 : w'.cell? ⟨w5.heap.size, 3, none⟩ = some (.slice Bg mg dg) := (HCG.out.below hS HCG.out.lt).cell 3; have f4 : w'.cell? ⟨w5.heap.size, 4, none⟩ = some (.int .u64 (R.1.rows : Int)) := (HCG.out.below hS HCG.out.lt).cell 4; have f5 : w'.cell? ⟨w5.heap.size, 5, none⟩ = some (.int .u64 (R.1.ents : Int)) := (HCG.out.below hS HCG.out.lt).cell 5
          go_simp
        simp only [List.getElem_toArray, List.getElem_cons_zero, List.getElem_cons_succ, Act.put, List.setIfInBounds_toArray, List.set_cons_zero, List.set_cons_succ]
        refine wpScript_take (.agg #[.string R.1.name, .int .i64 R.1.ver, .slice Aq nq cq, .slice Bq mq dq, .int .u64 (R.1.rows : Int), .int .u64 (R.1.ents : Int)]) (by rfl) (by rfl) (fun w' hS => ?_) ?_
        · have f0 : w'.cell? ⟨w6.heap.size, 0, none⟩ = some (.string R.1.name) := (HCQ.out.below hS HCQ.out.lt).cell 0; have f1 : w'.cell? ⟨w6.heap.size, 1, none⟩ = some (.int .i64 R.1.ver) := (HCQ.out.below hS HCQ.out.lt).cell 1; have f2 : w'.cell? ⟨w6.heap.size, 2, none⟩ = some (.slice Aq nq cq) := (HCQ.out.below hS HCQ.out.lt).cell 2; have f3 : w'.cell? ⟨w6.heap.size, 3, none⟩ = some (.slice Bq mq dq) := (HCQ.out.below hS HCQ.out.lt).cell 3; have f4 : w'.cell? ⟨w6.heap.size, 4, none⟩ = some (.int .u64 (R.1.rows : Int)) := (HCQ.out.below hS HCQ.out.lt).cell 4; have f5 : w'.cell? ⟨w6.heap.size, 5, none⟩ = some (.int .u64 (R.1.ents : Int)) := (HCQ.out.below hS HCQ.out.lt).cell 5
          go_simp
        simp only [List.getElem_toArray, List.getElem_cons_zero, List.getElem_cons_succ, Act.put, List.setIfInBounds_toArray, List.set_cons_zero, List.set_cons_succ]
        refine wpScript_do (by rfl) ?_
        go_wp2_with fail
        refine (back_is (HG6.out.below HBD.out) (by have := HRL.out; omega) (by have := HRL.out; omega)).mono ?_
        rintro e w7 ⟨v7, rfl, h7, hb7⟩
        have HB7 := Lib.hid (HBD.out.trans (hb7.mono HBD.out.size))
        have HY := Lib.hid h7
        clear h7 hb7
        go_wp2_with fail
        refine ⟨HB7.out, ?_⟩
        refine wpScript_do (by rfl) ?_
        go_wp2_with fail
        refine (same_is HY.out (HQ6.out.below HB7.out) (by have := HRL.out; omega) (by have := HRL.out; omega)).mono ?_
        rintro e w8 ⟨rfl, hb8⟩
        have HB8 := Lib.hid (HB7.out.trans (hb8.mono HB7.out.size))
        clear hb8
        go_wp2_with fail
        refine ⟨HB8.out, ?_⟩
        refine wpScript_take (.bool true) (by rfl) (by rfl) (fun w' hS => ?_) ?_
        · go_simp
        simp only [List.getElem_toArray, List.getElem_cons_zero, List.getElem_cons_succ, Act.put, List.setIfInBounds_toArray, List.set_cons_zero, List.set_cons_succ]
        refine wpScript_take (.bool true) (by rfl) (by rfl) (fun w' hS => ?_) ?_
        · go_simp
        simp only [List.getElem_toArray, List.getElem_cons_zero, List.getElem_cons_succ, Act.put, List.setIfInBounds_toArray, List.set_cons_zero, List.set_cons_succ]
        refine wpScript_take (.agg #[.string t'.name, .int .i64 t'.ver, .slice Ax nx cx, .slice Bx mx dx, .int .u64 (t'.rows : Int), .int .u64 (t'.ents : Int)]) (by rfl) (by rfl) (fun w' hS => ?_) ?_
        · have f0 : w'.cell? ⟨w4.heap.size, 0, none⟩ = some (.string t'.name) := (HC6.out.below hS HC6.out.lt).cell 0; have f1 : w'.cell? ⟨w4.heap.size, 1, none⟩ = some (.int .i64 t'.ver) := (HC6.out.below hS HC6.out.lt).cell 1; have f2 : w'.cell? ⟨w4.heap.size, 2, none⟩ = some (.slice Ax nx cx) := (HC6.out.below hS HC6.out.lt).cell 2; have f3 : w'.cell? ⟨w4.heap.size, 3, none⟩ = some (.slice Bx mx dx) := (HC6.out.below hS HC6.out.lt).cell 3; have f4 : w'.cell? ⟨w4.heap.size, 4, none⟩ = some (.int .u64 (t'.rows : Int)) := (HC6.out.below hS HC6.out.lt).cell 4; have f5 : w'.cell? ⟨w4.heap.size, 5, none⟩ = some (.int .u64 (t'.ents : Int)) := (HC6.out.below hS HC6.out.lt).cell 5
          go_simp
        simp only [List.getElem_toArray, List.getElem_cons_zero, List.getElem_cons_succ, Act.put, List.setIfInBounds_toArray, List.set_cons_zero, List.set_cons_succ]
        refine wpScript_take (.agg #[.string t.name, .int .i64 t.ver, .slice A m c, .slice A2 m2 c2, .int .u64 (t.rows : Int), .int .u64 (t.ents : Int)]) (by rfl) (by rfl) (fun w' hS => ?_) ?_
        · have f0 : w'.cell? ⟨w.heap.size, 0, none⟩ = some (.string t.name) := (HW6.out.arg.below hS HW6.out.arg.lt).cell 0; have f1 : w'.cell? ⟨w.heap.size, 1, none⟩ = some (.int .i64 t.ver) := (HW6.out.arg.below hS HW6.out.arg.lt).cell 1; have f2 : w'.cell? ⟨w.heap.size, 2, none⟩ = some (.slice A m c) := (HW6.out.arg.below hS HW6.out.arg.lt).cell 2; have f3 : w'.cell? ⟨w.heap.size, 3, none⟩ = some (.slice A2 m2 c2) := (HW6.out.arg.below hS HW6.out.arg.lt).cell 3; have f4 : w'.cell? ⟨w.heap.size, 4, none⟩ = some (.int .u64 (t.rows : Int)) := (HW6.out.arg.below hS HW6.out.arg.lt).cell 4; have f5 : w'.cell? ⟨w.heap.size, 5, none⟩ = some (.int .u64 (t.ents : Int)) := (HW6.out.arg.below hS HW6.out.arg.lt).cell 5
          go_simp
        simp only [List.getElem_toArray, List.getElem_cons_zero, List.getElem_cons_succ, Act.put, List.setIfInBounds_toArray, List.set_cons_zero, List.set_cons_succ]
        refine wpScript_do (by rfl) ?_
        go_wp2_with fail
        refine (back_is (HX6.out.below HB8.out) hc1 hc2).mono ?_
        rintro e w9 ⟨v9, rfl, h9, hb9⟩
        have HB9 := Lib.hid (HB8.out.trans (hb9.mono HB8.out.size))
        have HZ := Lib.hid h9
        clear h9 hb9
        go_wp2_with fail
        refine ⟨HB9.out, ?_⟩
        refine wpScript_do (by rfl) ?_
        go_wp2_with fail
        refine (same_is HZ.out (HT6.out.below HB9.out) hc1 hc2).mono ?_
        rintro e wz ⟨rfl, hbz⟩
        have HBZ := Lib.hid (HB9.out.trans (hbz.mono HB9.out.size))
        clear hbz
        go_wp2_with fail
        refine ⟨HBZ.out, ?_⟩
        show wpList _ _ _ _ _ _
        simp only [List.drop_succ_cons, List.drop_zero]
        go_wp2_with fail
        refine NoPanic.normal ?_
        go_wp2
        go_ret
        exact ⟨rfl, (HW6.out.step HBZ.out).below⟩
end Go.Proofs.YtophcoaikelopaaDoor
