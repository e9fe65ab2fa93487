/- Walks: the reference's Add. -/
import Derived.Test.YtophcoaikelopaaDoorXC
import Derived.Test.YtophcoaikelopaaDoorXD
import Derived.Test.YtophcoaikelopaaDoorWT
namespace Go.Proofs.YtophcoaikelopaaDoor
open Go.RowKit
attribute [local go_sem ↓] Go.wp_at_zero Go.wp_at_succ
structure DInv (w wr : World) (arg : Array Value) (v : Value) (k : Nat) (cols : List Col) : Prop where
  below : Below w.heap.size w wr
  arg : Blk wr w.heap.size 44 arg
  res : Blk wr (w.heap.size + 1) 44 #[.string ⟨#[]⟩, .int .i64 0, .slice none 0 0, .slice none 0 0, .int .u64 0, .int .u64 0]
  own : wr.ownsRow (w.heap.size + 2) 25 9 v k (colCells cols)
section
variable {w wr w1 : World} {arg : Array Value} {v : Value} {k : Nat} {cols : List Col}
theorem DInv.size (h : DInv w wr arg v k cols) : w.heap.size + 2 ≤ wr.heap.size := h.res.lt
theorem DInv.step (h : DInv w wr arg v k cols) (hb : Below wr.heap.size wr w1) : DInv w w1 arg v k cols :=
  ⟨h.below.trans (hb.mono h.below.size), h.arg.below hb h.arg.lt, h.res.below hb h.res.lt, own_below h.own hb⟩
theorem DInv.alloc (h : DInv w wr arg v k cols) (o : Obj) : DInv w (wr.alloc o) arg v k cols := h.step ((Below.refl _ _).alloc (Nat.le_refl _) o)
theorem DInv.set_ (h : DInv w wr arg v k cols) (i : Nat) (x : Value) : DInv w (wr.setCell ⟨w.heap.size, i, none⟩ x) (arg.setIfInBounds i x) v k cols :=
  ⟨h.below.setCell (p := ⟨w.heap.size, i, none⟩) (Nat.le_refl _) _, h.arg.set_ i x, h.res.far (p := ⟨w.heap.size, i, none⟩) (by show w.heap.size + 1 ≠ w.heap.size; omega) _, own_far h.own (by show w.heap.size < w.heap.size + 2; omega) _⟩
theorem DInv.add (h : DInv w wr arg v k cols) {v' : Value} {k' : Nat} {cols' : List Col} (hb : Below (w.heap.size + 2) wr w1) (ho : w1.ownsRow (w.heap.size + 2) 25 9 v' k' (colCells cols')) : DInv w w1 arg v' k' cols' :=
  ⟨h.below.trans (hb.mono (by omega)), h.arg.below hb (by omega), h.res.below hb (by omega), ho⟩
end
set_option maxRecDepth 100000 in
set_option maxHeartbeats 8000000 in
theorem refAdd_any (t : Tbl) (l : List Col) (A A2 B : Option Addr) (n c n2 c2 m d : Nat) (w : World) (hs : Sized t) (hsl : ∀ c ∈ l, c.name.size ≤ 9223372036854775807 ∧ c.d.text.size ≤ 9223372036854775807)
    (hc : Reads w w.heap.size 9 A n (colCells t.cols)) (hx : Reads w w.heap.size 2 A2 n2 (idxCells t.idxs)) (hl : Reads w w.heap.size 9 B m (colCells l)) (hn : n ≤ 100) (hn2 : n2 ≤ 100) (hm : m ≤ 100) (hc2 : n2 ≤ c2) :
    Calls Tryd.prog 33 #[.agg #[.string t.name, .int .i64 t.ver, .slice A n c, .slice A2 n2 c2, .int .u64 (t.rows : Int), .int .u64 (t.ents : Int)], .slice B m d] w (RetAdd w (addT t l)) := by
  have HLC := Lib.hid (show t.cols.length = n by have := hc.1; rw [colCells_len] at this; omega)
  have HLL := Lib.hid (show l.length = m by have := hl.1; rw [colCells_len] at this; omega)
  have HZT := Lib.hid (fun w => TblIs.zero w)
  by_cases hm0 : m = 0
  · subst hm0
    have hl0 : l = [] := List.eq_nil_of_length_eq_zero HLL.out
    subst hl0
    rw [addT_nil]
    clear HLC HLL hs hsl hc hx hl
    go_enter Tryd.func33, Tryd.ntmps33
    go_wp2
    refine bodyPost_ret (v := .tuple #[.agg #[.string ⟨#[]⟩, .int .i64 0, .slice none 0 0, .slice none 0 0, .int .u64 0, .int .u64 0], .int .i64 1]) (by simp [results, Tryd.results33, go_sem]) rfl ⟨_, rfl, HZT.out _, ?_⟩
    exact bel2 _ _ _
  · obtain ⟨R, hR⟩ : ∃ R, R = addT t l := ⟨_, rfl⟩
    rw [← hR]
    have HRR := Lib.hid hR
    clear hR
    have hl0 : l ≠ [] := fun h => by subst h; exact hm0 HLL.out.symm
    have e0 : ((m : Int) == 0) = false := by rw [beq_eq_false_iff_ne]; omega
    have HA : Hid (∀ W, Below w.heap.size w W → Calls Tryd.prog 21 #[.agg #[.string t.name, .int .i64 t.ver, .slice A n c, .slice A2 n2 c2, .int .u64 (t.rows : Int), .int .u64 (t.ents : Int)]] W fun e w' => e = .returned (.int .i64 (valid t)) ∧ Below W.heap.size W w') := fun W hb =>
      refValid_walk t A A2 n c n2 c2 W hs ((hc.below hb).more hb.size) ((hx.below hb).more hb.size) (by omega) (by omega)
    have HC := Lib.hid hc
    have HX := Lib.hid hx
    have HL := Lib.hid hl
    have HSN := Lib.hid (sized_next hs hsl)
    clear hc hx hl hs hsl
    go_enter Tryd.func33, Tryd.ntmps33
    go_wp2_with fail
    refine (HA.out _ (bel2 _ _ _)).mono ?_
    rintro e w1 ⟨rfl, hb1⟩
    have HV1 : Hid (Blk w1 w.heap.size 44 #[.string t.name, .int .i64 t.ver, .slice A n c, .slice A2 n2 c2, .int .u64 (t.rows : Int), .int .u64 (t.ents : Int)]) := ((Blk.new w 44 _).alloc _).below hb1 (by simp; omega)
    have HR1 : Hid (Blk w1 (w.heap.size + 1) 44 #[.string ⟨#[]⟩, .int .i64 0, .slice none 0 0, .slice none 0 0, .int .u64 0, .int .u64 0]) := (Blk.new1 w _ 44 _).below hb1 (by simp)
    have HB1 : Hid (Below w.heap.size w w1) := (bel2 _ _ _).trans (hb1.mono (by simp; omega))
    clear hb1 HA
    by_cases hv : valid t = 0
    · rw [hv]
      obtain ⟨_, _, hver, hver'⟩ := ok_of_valid hv
      obtain ⟨i0, hi0, hz0, hz1, hz2⟩ := info_parts info25
      have HB2 : Hid (DInv w (w1.setCell ⟨w.heap.size, 1, none⟩ (.int .i64 (t.ver + 1))) #[.string t.name, .int .i64 (t.ver + 1), .slice A n c, .slice A2 n2 c2, .int .u64 (t.rows : Int), .int .u64 (t.ents : Int)] (.slice none 0 0) 0 []) := (DInv.mk HB1.out HV1.out HR1.out (World.ownsRow_nil _ _ _ _)).set_ 1 _
      have HOE : Hid (((w1.setCell ⟨w.heap.size, 1, none⟩ (.int .i64 (t.ver + 1))).alloc (.cells #[] 25)).ownsRow (w.heap.size + 2) 25 9 (.slice (some ⟨w1.heap.size, 0, none⟩) 0 0) 0 []) := show _ by
        have h := World.ownsRow_made (base := w.heap.size + 2) (e := 25) (size := 9) (w1.setCell ⟨w.heap.size, 1, none⟩ (.int .i64 (t.ver + 1))) #[] 0 HB2.out.size (by unfold maxLen; omega) (by simp)
        simp only [World.size_setCell] at h
        exact h
      have a1 : w1.cell? ⟨w.heap.size, 1, none⟩ = some (.int .i64 t.ver) := HV1.out.cell 1
      have az1 := HV1.out.frozen 1
      have a2 : ∀ o, ((w1.setCell ⟨w.heap.size, 1, none⟩ (.int .i64 (t.ver + 1))).alloc o).cell? ⟨w.heap.size, 2, none⟩ = some (.slice A n c) := fun o => (HB2.out.alloc o).arg.cell 2
      clear HV1 HR1 HB1
      go_wp2_with (at_builtin; refine wpList_app _ (.tmp 24) (.tmp 26) 40 rfl rfl (w.heap.size + 2) 25 i0 _ 9 72 Tryd.underlying40 hi0 hz0 hz1 hz2 rfl ?q1 (.slice (some ⟨w1.heap.size, 0, none⟩) 0 0) 0 [] rfl HOE.out w.heap.size A n c (colCells t.cols) rfl ?q5 ?q6 ?q2 ?q3 ?q4 ?_; (case q1 => omega); (case q5 => exact HC.out.below (HB2.out.alloc _).below); (case q6 => exact colCells_one _); (case q2 => (unfold maxLen; omega)); (case q3 => omega); (case q4 => exact (HB2.out.alloc _).size); intro A3 n3 c3 w3 hn3 ho3 hg3 hb3; have HN3 := Lib.hid hn3; have HB3 := Lib.hid ((HB2.out.alloc _).add hb3 ho3); have g2 : w3.cell? ⟨w.heap.size, 2, none⟩ = some (.slice A n c) := (HB3.out.arg.cell 2); have gz2 := HB3.out.arg.frozen 2; clear hn3 ho3 hg3 hb3)
      have HB4 : Hid (DInv w (w3.setCell ⟨w.heap.size, 2, none⟩ (.slice A3 n3 c3)) #[.string t.name, .int .i64 (t.ver + 1), .slice A3 n3 c3, .slice A2 n2 c2, .int .u64 (t.rows : Int), .int .u64 (t.ents : Int)] (.slice A3 n3 c3) n3 t.cols) := HB3.out.set_ 2 _
      generalize w3.setCell ⟨w.heap.size, 2, none⟩ (.slice A3 n3 c3) = w4 at *
      clear HB2 HB3 HOE a1 az1 a2 g2 gz2
      have HB5 : Hid (DInv w w4 #[.string t.name, .int .i64 (t.ver + 1), .slice A3 n3 c3, .slice A2 n2 c2, .int .u64 (t.rows : Int), .int .u64 (t.ents : Int)] (.slice A3 n3 c3) n3 (t.cols ++ (l.take 0).map (mark (t.ver + 1)))) := show _ by
        rw [List.take_zero, List.map_nil, List.append_nil]; exact HB4.out
      have hn3 : n3 ≤ n := by have := HN3.out; omega
      have hn3' : n ≤ n3 := by have := HN3.out; omega
      clear HB4 HN3
      go_loopw [31] (fun i wr => ∃ (k : Nat) (v : Value) (q : Nat), k ≤ m ∧ q = n + k ∧ i = .int .i64 k ∧ Hid (DInv w wr #[.string t.name, .int .i64 (t.ver + 1), v, .slice A2 n2 c2, .int .u64 (t.rows : Int), .int .u64 (t.ents : Int)] v q (t.cols ++ (l.take k).map (mark (t.ver + 1))))) (fun i _ => m - (intOf i).toNat)
      case atStart => exact ⟨0, _, _, Nat.zero_le _, by omega, rfl, HB5⟩
      case round =>
        clear HB5 hn3 hn3'
        obtain ⟨k, v, q, hk, hq, rfl, hinv⟩ := hrel
        have hq1 : q ≤ n + k := by omega
        have hq2 : n + k ≤ q := by omega
        clear hq
        by_cases hlt : k < m
        · obtain ⟨hl, b1, off, hA, hbB, f0, f1, f2, f3, f4, f5, f6, f7, f8⟩ := col_facts (HL.out.below hinv.out.below) hlt
          subst hA
          have HTK : Hid (t.cols ++ (l.take k).map (mark (t.ver + 1)) ++ [mark (t.ver + 1) l[k]] = t.cols ++ (l.take (k + 1)).map (mark (t.ver + 1))) := show _ = _ by
            rw [List.take_succ_eq_append_getElem hl, List.map_append, List.append_assoc]; rfl
          generalize l[k] = cc at *
          have p1 : ∀ o, (wr.alloc o).cell? ⟨w.heap.size, 1, none⟩ = some (.int .i64 (t.ver + 1)) := fun o => (hinv.out.alloc o).arg.cell 1
          have p2 : ∀ o, (wr.alloc o).cell? ⟨w.heap.size, 2, none⟩ = some v := fun o => (hinv.out.alloc o).arg.cell 2
          have hz0' : (0 : Int) ≤ (k : Int) := by omega
          have hz1' : (k : Int) < (m : Int) := by omega
          go_wp2_with (at_builtin; refine wpList_app _ (.tmp 39) (.tmp 41) 40 rfl rfl (w.heap.size + 2) 25 i0 _ 9 72 Tryd.underlying40 hi0 hz0 hz1 hz2 rfl ?q1 v q (colCells (t.cols ++ (l.take k).map (mark (t.ver + 1)))) rfl ?q0 (wr.heap.size + 2) (some ⟨wr.heap.size + 1, 0, none⟩) 1 1 (mark (t.ver + 1) cc).cells rfl ?q5 (cells_one _) ?q2 ?q3 ?q4 ?_; (case q1 => omega); (case q0 => exact ((hinv.out.alloc _).alloc _).own); (case q5 => exact row_reads_at _ _ (by simp) _ 1 9 25 _ rfl rfl); (case q2 => (unfold maxLen; omega)); (case q3 => omega); (case q4 => exact ((hinv.out.alloc _).alloc _).size); intro A5 n5 c5 w8 hn5 ho5 hg5 hb5; rw [← colCells_snoc] at ho5; have HN := Lib.hid (((hinv.out.alloc _).alloc _).add hb5 ho5); have g4 : w8.cell? ⟨w.heap.size, 2, none⟩ = some v := (HN.out.arg.cell 2); have hf4 := HN.out.arg.frozen 2; have HN5 := Lib.hid hn5; clear hn5 ho5 hg5 hb5)
          have HNN : Hid (DInv w (w8.setCell ⟨w.heap.size, 2, none⟩ (.slice A5 n5 c5)) #[.string t.name, .int .i64 (t.ver + 1), .slice A5 n5 c5, .slice A2 n2 c2, .int .u64 (t.rows : Int), .int .u64 (t.ents : Int)] (.slice A5 n5 c5) n5 (t.cols ++ (l.take (k + 1)).map (mark (t.ver + 1)))) := show _ by
            rw [← HTK.out]; exact HN.out.set_ 2 _
          go_roundw
          case rel => exact ⟨k + 1, _, n5, by omega, by have := HN5.out; omega, by go_num, HNN⟩
          case measure => simp [intOf]; omega
        · obtain rfl : m = k := by omega
          rw [show m = l.length from HLL.out.symm, List.take_length] at hinv
          obtain ⟨A5, c5, hve⟩ := own_slice hinv.out.own
          subst hve
          have hcc := own_cap hinv.out.own
          have HVV : Hid (Calls Tryd.prog 21 #[.agg #[.string t.name, .int .i64 (t.ver + 1), .slice A5 q c5, .slice A2 n2 c2, .int .u64 (t.rows : Int), .int .u64 (t.ents : Int)]] wr fun e w' => e = .returned (.int .i64 (valid (nextT t l))) ∧ Below wr.heap.size wr w') :=
            refValid_walk (nextT t l) A5 A2 q c5 n2 c2 _ HSN.out (Reads.of_own hinv.out.own) ((HX.out.below hinv.out.below).more hinv.out.below.size) (by omega) (by omega)
          have q0 : wr.cell? ⟨w.heap.size, 0, none⟩ = some (.string t.name) := hinv.out.arg.cell 0
          have q1 : wr.cell? ⟨w.heap.size, 1, none⟩ = some (.int .i64 (t.ver + 1)) := hinv.out.arg.cell 1
          have q2 : wr.cell? ⟨w.heap.size, 2, none⟩ = some (.slice A5 q c5) := hinv.out.arg.cell 2
          have q3 : wr.cell? ⟨w.heap.size, 3, none⟩ = some (.slice A2 n2 c2) := hinv.out.arg.cell 3
          have q4 : wr.cell? ⟨w.heap.size, 4, none⟩ = some (.int .u64 (t.rows : Int)) := hinv.out.arg.cell 4
          have q5 : wr.cell? ⟨w.heap.size, 5, none⟩ = some (.int .u64 (t.ents : Int)) := hinv.out.arg.cell 5
          go_wp2_with fail
          refine HVV.out.mono ?_
          rintro e w6 ⟨rfl, hb6⟩
          have HN6 := Lib.hid (hinv.out.step hb6)
          clear hb6 HVV hinv q0 q1 q2 q3 q4 q5
          by_cases hv2 : valid (nextT t l) = 0
          · have HR2 := Lib.hid (HRR.out.trans (addT_yes hl0 hv hv2))
            rw [hv2]
            obtain rfl := HR2.out
            clear HRR HR2 hv hv2
            have r0 := HN6.out.res.cell 0
            have rz0 := HN6.out.res.frozen 0
            have r1 := HN6.out.res.cell 1
            have rz1 := HN6.out.res.frozen 1
            have r2 := HN6.out.res.cell 2
            have rz2 := HN6.out.res.frozen 2
            have r3 := HN6.out.res.cell 3
            have rz3 := HN6.out.res.frozen 3
            have r4 := HN6.out.res.cell 4
            have rz4 := HN6.out.res.frozen 4
            have r5 := HN6.out.res.cell 5
            have rz5 := HN6.out.res.frozen 5
            simp at r0 r1 r2 r3 r4 r5
            have q0 : w6.cell? ⟨w.heap.size, 0, none⟩ = some (.string t.name) := HN6.out.arg.cell 0
            have q1 : w6.cell? ⟨w.heap.size, 1, none⟩ = some (.int .i64 (t.ver + 1)) := HN6.out.arg.cell 1
            have q2 : w6.cell? ⟨w.heap.size, 2, none⟩ = some (.slice A5 q c5) := HN6.out.arg.cell 2
            have q3 : w6.cell? ⟨w.heap.size, 3, none⟩ = some (.slice A2 n2 c2) := HN6.out.arg.cell 3
            have q4 : w6.cell? ⟨w.heap.size, 4, none⟩ = some (.int .u64 (t.rows : Int)) := HN6.out.arg.cell 4
            have q5 : w6.cell? ⟨w.heap.size, 5, none⟩ = some (.int .u64 (t.ents : Int)) := HN6.out.arg.cell 5
            go_wp2
            refine bodyPost_ret (v := .tuple #[.agg #[.string t.name, .int .i64 (t.ver + 1), .slice A5 q c5, .slice A2 n2 c2, .int .u64 (t.rows : Int), .int .u64 (t.ents : Int)], .int .i64 0]) (by simp [results, Tryd.results33, go_sem, r0, r1, r2, r3, r4, r5]) rfl ⟨_, rfl, ⟨A5, q, c5, A2, n2, c2, rfl, Reads.of_own (base := w.heap.size + 2) (e := 25) (c := c5) ?_, ?_, hcc.1, hc2⟩, ?_⟩
            · iterate 6 (refine own_far ?_ (by show w.heap.size + 1 < w.heap.size + 2; omega) _)
              exact HN6.out.own
            · refine Reads.more (B := w.heap.size) ?_ ?_
              · refine HX.out.below ?_
                iterate 6 (refine Below.setCell ?_ (by simp) _)
                exact HN6.out.below
              · simp; have := HN6.out.below.size; omega
            · iterate 6 (refine Below.setCell ?_ (by simp) _)
              exact HN6.out.below
          · have HR2 := Lib.hid (HRR.out.trans (addT_no hl0 hv hv2))
            generalize valid (nextT t l) = vd at *
            have e1 : (vd != 0) = true := by rw [bne_iff_ne]; exact hv2
            obtain rfl := HR2.out
            clear HRR HR2 hv hv2
            have r0 := HN6.out.res.cell 0
            have rz0 := HN6.out.res.frozen 0
            have r1 := HN6.out.res.cell 1
            have rz1 := HN6.out.res.frozen 1
            have r2 := HN6.out.res.cell 2
            have rz2 := HN6.out.res.frozen 2
            have r3 := HN6.out.res.cell 3
            have rz3 := HN6.out.res.frozen 3
            have r4 := HN6.out.res.cell 4
            have rz4 := HN6.out.res.frozen 4
            have r5 := HN6.out.res.cell 5
            have rz5 := HN6.out.res.frozen 5
            simp at r0 r1 r2 r3 r4 r5
            go_wp2
            refine bodyPost_ret (v := .tuple #[.agg #[.string ⟨#[]⟩, .int .i64 0, .slice none 0 0, .slice none 0 0, .int .u64 0, .int .u64 0], .int .i64 vd]) (by simp [results, Tryd.results33, go_sem, r0, r1, r2, r3, r4, r5]) rfl ⟨_, rfl, HZT.out _, ?_⟩
            iterate 6 (refine Below.setCell ?_ (by simp) _)
            exact HN6.out.below
    · have HR2 := Lib.hid (HRR.out.trans (addT_bad hl0 hv))
      generalize valid t = vd at *
      obtain rfl := HR2.out
      clear HRR HR2
      have e1 : (vd != 0) = true := by rw [bne_iff_ne]; exact hv
      have r0 := HR1.out.cell 0
      have rz0 := HR1.out.frozen 0
      have r1 := HR1.out.cell 1
      have rz1 := HR1.out.frozen 1
      have r2 := HR1.out.cell 2
      have rz2 := HR1.out.frozen 2
      have r3 := HR1.out.cell 3
      have rz3 := HR1.out.frozen 3
      have r4 := HR1.out.cell 4
      have rz4 := HR1.out.frozen 4
      have r5 := HR1.out.cell 5
      have rz5 := HR1.out.frozen 5
      simp at r0 r1 r2 r3 r4 r5
      clear hv HV1
      go_wp2
      refine bodyPost_ret (v := .tuple #[.agg #[.string ⟨#[]⟩, .int .i64 0, .slice none 0 0, .slice none 0 0, .int .u64 0, .int .u64 0], .int .i64 vd]) (by simp [results, Tryd.results33, go_sem, r0, r1, r2, r3, r4, r5]) rfl ⟨_, rfl, HZT.out _, ?_⟩
      iterate 6 (refine Below.setCell ?_ (by simp) _)
      exact HB1.out
end Go.Proofs.YtophcoaikelopaaDoor
