/- The walks and laws that the claim leans on, part 15: each part says ahead of its lines what it holds. -/
import Derived.Test.YtklpeghhgoeeiaaGreatDoorKan
/- tx: word, mine, enter in mode Undo. -/
namespace Go.Proofs.YtklpeghhgoeeiaaGreatDoor
open Go.RowKit Go.Maps
/-- 'v, ok := m[k]' at a map without entries. -/
theorem look_none {w : World} {b : Nat} {tm te : TypeId} (h : w.ownsMap Tryz.prog 35 oneR b 0 (.map [])) (ht : Tryz.prog.underlying tm = some (.map 35 te)) {z : Value} (hz : (zeroValue te).run Tryz.prog w = .ok z w) {o : Nat} (ho : o < 18446744073709551616) :
    ∃ v, (Instr.lookup tm (.map (some b)) (.int .u64 (o : Int)) true).run Tryz.prog w = .ok (.tuple #[v, .bool false]) w := by
  obtain ⟨v, ps, hrun, _⟩ := h.look_ok keyedU ht hz (zd := .lit (.bool true)) (zp := []) rfl (keyU ho)
  exact ⟨v, by rw [hrun]; rfl⟩
/-- 'v, ok := m[k]' at the changed words. -/
theorem look_cell {w : World} {b n : Nat} {D : DataW Unit} (h : w.ownsMap Tryz.prog 35 cellR b n D) {o : Nat} (ho : o < 18446744073709551616) :
    ∃ v x p, (Instr.lookup 95 (.map (some b)) (.int .u64 (o : Int)) true).run Tryz.prog w = .ok (.tuple #[cellV v x p, .bool (has D (kU o))]) w ∧ D.atKey (kU o) (cellD 0 0 false) = cellD v x p := by
  obtain ⟨v, ps, hrun, hv⟩ := h.look_ok keyedU Tryz.underlying95 (z := cellV 0 0 false) (by kernel_rfl) (cellR_mk 0 0 false) (keyU ho)
  obtain ⟨a, b, p, rfl, hz⟩ := cellR_inv hv
  exact ⟨a, b, p, hrun, congrArg Prod.fst hz⟩
set_option maxRecDepth 100000 in
set_option maxHeartbeats 4000000 in
theorem mine_none {c : CX} {g : Nat} {w : World} {S : Fp} {t : TX} {D : DataW Unit} {n : Nat} {cur : Nat → Nat} {T : Nat} (h : TxS c g w S t D n cur T) (o : Nat) (ho : o < 18446744073709551616) :
    Calls Tryz.prog 52 #[.pointer (some ⟨g, 0, none⟩), .int .u64 (o : Int)] w fun e w' => e = .returned (.bool false) ∧ w = w' := by
  have c12 : w.cell? ⟨g, 12, none⟩ = some (.map (some t.cover)) := h.tx.cell 12
  obtain ⟨v, hlk⟩ := look_none h.maps.cover Tryz.underlying96 (z := .int .u64 0) (by kernel_rfl) ho
  clear h
  go_enter Tryz.func52, Tryz.ntmps52
  go_wp2
  go_ret
  exact ⟨rfl, rfl⟩
set_option maxRecDepth 100000 in
set_option maxHeartbeats 4000000 in
theorem word_in {c : CX} {g : Nat} {w : World} {S : Fp} {t : TX} {D : DataW Unit} {n : Nat} {cur : Nat → Nat} {T : Nat} (h : TxS c g w S t D n cur T) (o : Nat) (h8 : o % 8 = 0) (hlt : o < 64 * 152) :
    Calls Tryz.prog 51 #[.pointer (some ⟨g, 0, none⟩), .int .u64 (o : Int)] w fun e w' => e = .returned (.bool true) ∧ w = w' := by
  have c6 : w.cell? ⟨g, 6, none⟩ = some (.pointer (some ⟨c.x.m, 0, none⟩)) := h.tx.cell 6
  have m0 : w.cell? ⟨c.x.m, 0, none⟩ = some (.pointer (some ⟨c.a.th 0, 0, none⟩)) := h.base.sys.m.cell 0
  obtain ⟨ls, exe, per, cs, lsC, hdc, hnt⟩ := h.base.dev
  obtain ⟨f0, f2, _, _, f4⟩ := hdc.facts (j := 0) (by omega)
  have e1 : ((o : Int) % 8 == 0) = true := by rw [beq_iff_eq]; omega
  have e1' : (o : Int) % 8 = 0 := by omega
  have e2 : decide ((o : Int) < 9728) = true := decide_eq_true (by omega)
  have e3 : decide (o < 9728) = true := decide_eq_true (by omega)
  clear hdc hnt h
  go_enter Tryz.func51, Tryz.ntmps51
  go_wp2
  go_ret
  exact ⟨rfl, rfl⟩
end Go.Proofs.YtklpeghhgoeeiaaGreatDoor
/- tx: enter in mode Undo, with an empty log. -/
namespace Go.Proofs.YtklpeghhgoeeiaaGreatDoor
open Go.RowKit Go.Maps
/-- The device's blocks and the transaction's. -/
def SG (S : Fp) (g : Nat) : Fp := fun k => S k ∨ k = g
theorem one_u (w : World) (o : Nat) (k : Nat) (hk : w.heap.size = k) : Reads (w.alloc (.cells #[.int .u64 (o : Int)] 35)) (w.alloc (.cells #[.int .u64 (o : Int)] 35)).heap.size 1 (some ⟨k, 0, none⟩) 1 (uCells [o]) := by
  subst hk
  rw [show (w.alloc (.cells #[.int .u64 (o : Int)] 35)).heap.size = w.heap.size + 1 by simp]
  exact row_reads_at w _ rfl _ 1 1 35 _ rfl rfl
theorem fr_one (o : Nat) : (fr (([] : List (Nat × Nat)).map (·.1)) [o]).2 = [o] := by simp [fr, frStep]
theorem isFl_len {ws ws2 : List (Nat × Nat)} {p : List Ins} (h : IsFl ws ws2 p) (h1 : ws2.length = 1) (h2 : ws.length ≤ 100) : 3 ≤ p.length ∧ p.length ≤ 1000 := by
  obtain ⟨fs, p2, rfl, hf, _, fs2, rfl, hf2, _⟩ := h
  simp
  omega
set_option maxRecDepth 100000 in
set_option maxHeartbeats 4000000 in
theorem txSave {c : CX} {g : Nat} {W : World} {S : Fp} {t : TX} {D : DataW Unit} {n : Nat} {cur : Nat → Nat} {T : Nat} (h : TxS c g W S t D n cur T) {A0 : Option Addr} {N c0 T' : Nat} {cur' : Nat → Nat} (hs : Calls Tryz.prog 131 #[.pointer (some ⟨c.x.u, 0, none⟩), .slice A0 N c0] W (RetDev c.a 152 T' W S cur' 0 (.int .i64 0))) :
    Calls Tryz.prog 119 #[.pointer (some ⟨g, 0, none⟩), .slice A0 N c0] W (RetDev c.a 152 T' W S cur' 0 (.int .i64 0)) := by
  have c6 : W.cell? ⟨g, 6, none⟩ = some (.pointer (some ⟨c.x.m, 0, none⟩)) := h.tx.cell 6
  have m2 : W.cell? ⟨c.x.m, 2, none⟩ = some (.pointer (some ⟨c.x.u, 0, none⟩)) := h.base.sys.m.cell 2
  have HS := Lib.hid hs
  clear h hs
  go_enter Tryz.func119, Tryz.ntmps119
  go_wp2_with fail
  refine HS.out.mono ?_
  rintro e w1 ⟨rfl, h1⟩
  have HZ := Lib.hid h1
  clear h1 HS
  go_wp2
  go_ret
  exact ⟨rfl, HZ.out⟩
/-- The plan that empties the log is kept. -/
def TailOk (v : Value) : Prop := ∃ (ad : Addr) (m c : Nat), v = .slice (some ad) m c
def RetEnter (c : CX) (g : Nat) (w : World) (S : Fp) (t : TX) (D : DataW Unit) (n : Nat) (cur' : Nat → Nat) (T' : Nat) (v : Value) (e : Ending) (w' : World) : Prop :=
  ∃ S' tl, e = .returned v ∧ TxS c g w' S' { t with tail := tl } D n cur' T' ∧ Chg (SG S g) w w' ∧ Grew S S' w ∧ TailOk tl
set_option maxRecDepth 100000 in
set_option maxHeartbeats 8000000 in
theorem enter_undo {c : CX} {g : Nat} {w : World} {S : Fp} {t : TX} {D : DataW Unit} {n : Nat} {cur : Nat → Nat} {T : Nat} (h : TxS c g w S t D n cur T) (hmode : t.mode = 2) (htail : t.tail = .slice none 0 0) (o : Nat) (ho : OffOk 152 30 26 o) (hl : LogU cur 30 []) (hcv : ∀ i, cur i < 18446744073709551616) (hT : T ≤ 1000000) :
    Calls Tryz.prog 53 #[.pointer (some ⟨g, 0, none⟩), .int .u64 (o : Int)] w (RetEnter c g w S t D n (svC cur 1920 0 [o]) (T + 8) (cellV 0 (cur (o / 8)) true)) := by
  have HX := Lib.hid h
  have HLt := Lib.hid h.lts
  have HOo := Lib.hid ho
  have HLd := Lib.hid (load_at h.base.dev o (cur (o / 8)) ho.al ho.lt rfl)
  have HSn : Hid (∀ k, w.heap.size ≤ k → ¬ S k) := fun k hk hs => by have := h.base.dev.lt _ hs; omega
  have HSV : Hid (∀ W A0 c0, Below w.heap.size w W → Reads W W.heap.size 1 A0 1 (uCells [o]) → Calls Tryz.prog 131 #[.pointer (some ⟨c.x.u, 0, none⟩), .slice A0 1 c0] W (RetDev c.a 152 (T + 8) W S (svC cur 1920 0 [o]) 0 (.int .i64 0))) := fun W A0 c0 hW hr => by
    have hx := h.more_ hW
    exact saveU_any hx.base.dev c.x.u 30 26 hx.base.sys.u (by omega) (by omega) [] hl (fun e he => by simp at he) A0 1 c0 [o] [o] (fr_one o) hr (fun q hq => by simp at hq; subst hq; exact ho) (by simp) (by omega) (by simp) (fun i _ => hcv i) (by simp; omega)
  have HLg := Lib.hid (logU_save hl [o])
  have HPC : Hid (∀ W S1, TxS c g W S1 t D n (svC cur 1920 0 [o]) (T + 8) → Calls Tryz.prog 120 #[.pointer (some ⟨c.x.u, 0, none⟩)] W (RetPlan W (IsFl (frW cur [o]) [(1920, 0)]))) := fun W S1 hx =>
    planCommit_any hx.base.dev c.x.u 30 26 hx.base.sys.u (by omega) (by omega) (frW cur [o]) HLg.out ⟨fun e he => by simp [frW] at he; subst he; exact ho, fun e he => by simp [frW] at he; subst he; exact hcv _, by simp [frW], by simp [frW]⟩
  have c7 : w.cell? ⟨g, 7, none⟩ = some (.int .u8 2) := (h.tx.cell 7).trans (by simp [txCells, hmode])
  have c6 : w.cell? ⟨g, 6, none⟩ = some (.pointer (some ⟨c.x.m, 0, none⟩)) := h.tx.cell 6
  have m0 : w.cell? ⟨c.x.m, 0, none⟩ = some (.pointer (some ⟨c.a.th 0, 0, none⟩)) := h.base.sys.m.cell 0
  have HTl := Lib.hid htail
  have hlg : g < w.heap.size := h.tx.lt
  have hlm : c.x.m < w.heap.size := h.base.sys.m.lt
  clear h ho hl hcv hmode htail
  generalize cur (o / 8) = old at *
  go_enter Tryz.func53, Tryz.ntmps53
  go_wp2_with fail
  refine (HLd.out _ ((Below.refl _ _).alloc (Nat.le_refl _) _)).mono ?_
  rintro e w1 ⟨rfl, rfl⟩
  go_wp2_with fail
  have hbw : Below w.heap.size w (((w.alloc (.cells #[.int .u64 0, .int .u64 0, .bool false] 107)).alloc (.cells #[.int .u64 0, .int .u64 (old : Int), .bool false] 107)).alloc (.cells #[.int .u64 (o : Int)] 35)) := (((Below.refl _ w).alloc (Nat.le_refl _) _).alloc (by simp) _).alloc (by simp; omega) _
  have HXW := Lib.hid (HX.out.more_ hbw)
  have HB4 := Lib.hid (((Blk.new w 107 #[.int .u64 0, .int .u64 0, .bool false]).alloc (.cells #[.int .u64 0, .int .u64 (old : Int), .bool false] 107)).alloc (.cells #[.int .u64 (o : Int)] 35))
  have HB5 := Lib.hid ((Blk.new2 w (.cells #[.int .u64 0, .int .u64 0, .bool false] 107) 107 #[.int .u64 0, .int .u64 (old : Int), .bool false]).alloc (.cells #[.int .u64 (o : Int)] 35))
  have HSave := Lib.hid (txSave HXW.out (HSV.out _ (some ⟨w.heap.size + 1 + 1, 0, none⟩) 1 hbw (one_u _ o _ (by simp))))
  have HZ0 : Hid (Chg (SG S g) w (((w.alloc (.cells #[.int .u64 0, .int .u64 0, .bool false] 107)).alloc (.cells #[.int .u64 0, .int .u64 (old : Int), .bool false] 107)).alloc (.cells #[.int .u64 (o : Int)] 35))) := Chg.of_below hbw
  have HLW : Hid (w.heap.size + 3 ≤ (((w.alloc (.cells #[.int .u64 0, .int .u64 0, .bool false] 107)).alloc (.cells #[.int .u64 0, .int .u64 (old : Int), .bool false] 107)).alloc (.cells #[.int .u64 (o : Int)] 35)).heap.size) := Lib.hid (by simp)
  generalize ((w.alloc (.cells #[.int .u64 0, .int .u64 0, .bool false] 107)).alloc (.cells #[.int .u64 0, .int .u64 (old : Int), .bool false] 107)).alloc (.cells #[.int .u64 (o : Int)] 35) = W at *
  clear hbw HSV HLd HX c6 c7 m0
  refine HSave.out.mono ?_
  intro e W1 h1
  obtain ⟨rfl, S1, hx1, hc1, hg1⟩ := HXW.out.step h1
  have HX1 := Lib.hid hx1
  have HB41 := Lib.hid (hc1.blk HB4.out (HSn.out _ (Nat.le_refl _)))
  have HB51 := Lib.hid (hc1.blk HB5.out (HSn.out _ (Nat.le_succ _)))
  have HZ1 := Lib.hid (HZ0.out.trans hc1 (fun k hk => .inl (.inl hk)))
  have HG1 : Hid (Grew S S1 w) := fun k hk => (hg1 k hk).elim .inl (fun h => .inr (by have := HLW.out; omega))
  have HS1 : Hid (∀ k, w.heap.size ≤ k → k < w.heap.size + 2 → ¬ S1 k) := fun k hk hk2 hs => (hg1 k hs).elim (HSn.out k hk) (fun h => by have := HLW.out; omega)
  clear h1 hx1 hc1 hg1 HSave HB4 HB5 HXW HZ0
  have z2 : W1.frozen? ⟨w.heap.size + 1, 2, none⟩ = false := HB51.out.frozen 2
  have d2 : W1.cell? ⟨w.heap.size + 1, 2, none⟩ = some (.bool false) := HB51.out.cell 2
  have HX2 := Lib.hid (HX1.out.other HLt.out (Nat.le_succ _) (HS1.out _ (Nat.le_succ _) (by omega)) 2 (.bool true))
  have HB42 := Lib.hid ((Chg.refl (fun j => j = w.heap.size + 1) W1).setCell (p := ⟨w.heap.size + 1, 2, none⟩) (.inl rfl) (.bool true) |>.blk HB41.out (by omega))
  have HB52 : Hid (Blk (W1.setCell ⟨w.heap.size + 1, 2, none⟩ (.bool true)) (w.heap.size + 1) 107 #[.int .u64 0, .int .u64 (old : Int), .bool true]) := Lib.hid (HB51.out.set_ 2 (.bool true))
  have HZ2 := Lib.hid (HZ1.out.setCell (p := ⟨w.heap.size + 1, 2, none⟩) (.inr (Nat.le_succ _)) (.bool true))
  have c13 : (W1.setCell ⟨w.heap.size + 1, 2, none⟩ (.bool true)).cell? ⟨g, 13, none⟩ = some (.slice none 0 0) := (HX2.out.tx.cell 13).trans (by simp [txCells, HTl.out])
  have c6 : (W1.setCell ⟨w.heap.size + 1, 2, none⟩ (.bool true)).cell? ⟨g, 6, none⟩ = some (.pointer (some ⟨c.x.m, 0, none⟩)) := HX2.out.tx.cell 6
  have m2 : (W1.setCell ⟨w.heap.size + 1, 2, none⟩ (.bool true)).cell? ⟨c.x.m, 2, none⟩ = some (.pointer (some ⟨c.x.u, 0, none⟩)) := HX2.out.base.sys.m.cell 2
  have hnil : ∀ W, (binOp .eql 87 (.slice none 0 0) (.slice none 0 0)).run Tryz.prog W = .ok (.bool true) W := fun W => by kernel_rfl
  go_wp2_with fail
  generalize W1.setCell ⟨w.heap.size + 1, 2, none⟩ (.bool true) = W2 at *
  clear z2 d2 HX1 HB41 HB51 HZ1
  refine (HPC.out W2 S1 HX2.out).mono ?_
  rintro e W3 ⟨A1, m1, c1, p1, rfl, hp1, ho1, hb1⟩
  obtain ⟨hp3, hp4⟩ := isFl_len hp1 rfl (by simp [frW])
  have hm1 : p1.length = m1 := by have := ho1.1; rw [insCells_len] at this; omega
  obtain ⟨k, hk⟩ : ∃ k, m1 = k + 3 := ⟨m1 - 3, by omega⟩
  subst hk
  obtain ⟨gb, cap, hv, hb0, hlt⟩ := ho1.form (by omega)
  injection hv with hv1 hv2 hv3
  subst hv1
  have hcap : k + 3 ≤ c1 := by
    rcases ho1.2 with ⟨_, h0⟩ | ⟨g', cap', cs, hv', _, _, hle, _⟩
    · omega
    · injection hv' with _ _ h3
      omega
  have hrd := reads_drop (Reads.of_own ho1) k (by omega)
  rw [Nat.zero_add, show k + 3 - k = 3 by omega] at hrd
  have HCl := Lib.hid (cloneP_any _ 3 (c1 - k) _ W3 hrd (by omega) (by omega))
  have HX3 := Lib.hid (HX2.out.more_ hb1)
  have HB43 := Lib.hid (HB42.out.below hb1 HB42.out.lt)
  have HB53 := Lib.hid (HB52.out.below hb1 HB52.out.lt)
  have HZ3 := Lib.hid (HZ2.out.below hb1)
  have q1 : (k : Int) + 3 ≤ (c1 : Int) := by omega
  have q2 : k < c1 := by omega
  have q3 : ¬ (c1 - k = 0) := by omega
  have q4 : (k : Int) < (c1 : Int) := by omega
  have q5 : k ≤ 1000 := by omega
  have q6 : ¬ (c1 = k) := by omega
  have q7 : ¬ (k = c1) := by omega
  have q8 : k + 3 - k = 3 := by omega
  clear hp1 ho1 hb1 hp3 hp4 hm1 hrd hv2 hv3 HX2 HB42 HB52 HZ2 c13 c6 m2
  go_wp2_with fail
  refine HCl.out.mono ?_
  rintro e W4 ⟨A4, m4, c4, rfl, hb4⟩
  have hx4 := HX3.out.more_ hb4
  have z13 : W4.frozen? ⟨g, 13, none⟩ = false := hx4.tx.frozen 13
  have c13 : W4.cell? ⟨g, 13, none⟩ = some t.tail := hx4.tx.cell 13
  have HX5 := Lib.hid (hx4.set 13 (.slice (some A4) m4 c4) { t with tail := .slice (some A4) m4 c4 } rfl ⟨rfl, rfl, rfl, rfl, rfl, rfl⟩)
  have hc5 : Chg (fun j => j = g) W4 (W4.setCell ⟨g, 13, none⟩ (.slice (some A4) m4 c4)) := (Chg.refl (fun j => j = g) W4).setCell (p := ⟨g, 13, none⟩) (.inl rfl) _
  have HB4 := Lib.hid (hc5.blk (HB43.out.below hb4 HB43.out.lt) (by omega))
  have HB5 := Lib.hid (hc5.blk (HB53.out.below hb4 HB53.out.lt) (by omega))
  have HZ5 := Lib.hid ((HZ3.out.below hb4).setCell (p := ⟨g, 13, none⟩) (.inl (.inr rfl)) (.slice (some A4) m4 c4))
  have b50 : (W4.setCell ⟨g, 13, none⟩ (.slice (some A4) m4 c4)).cell? ⟨w.heap.size + 1, 0, none⟩ = some (.int .u64 0) := HB5.out.cell 0
  have b51 : (W4.setCell ⟨g, 13, none⟩ (.slice (some A4) m4 c4)).cell? ⟨w.heap.size + 1, 1, none⟩ = some (.int .u64 (old : Int)) := HB5.out.cell 1
  have b52 : (W4.setCell ⟨g, 13, none⟩ (.slice (some A4) m4 c4)).cell? ⟨w.heap.size + 1, 2, none⟩ = some (.bool true) := HB5.out.cell 2
  have b40 : (W4.setCell ⟨g, 13, none⟩ (.slice (some A4) m4 c4)).cell? ⟨w.heap.size, 0, none⟩ = some (.int .u64 0) := HB4.out.cell 0
  have b41 : (W4.setCell ⟨g, 13, none⟩ (.slice (some A4) m4 c4)).cell? ⟨w.heap.size, 1, none⟩ = some (.int .u64 0) := HB4.out.cell 1
  have b42 : (W4.setCell ⟨g, 13, none⟩ (.slice (some A4) m4 c4)).cell? ⟨w.heap.size, 2, none⟩ = some (.bool false) := HB4.out.cell 2
  have z40 : (W4.setCell ⟨g, 13, none⟩ (.slice (some A4) m4 c4)).frozen? ⟨w.heap.size, 0, none⟩ = false := HB4.out.frozen 0
  have z41 : (W4.setCell ⟨g, 13, none⟩ (.slice (some A4) m4 c4)).frozen? ⟨w.heap.size, 1, none⟩ = false := HB4.out.frozen 1
  have z42 : (W4.setCell ⟨g, 13, none⟩ (.slice (some A4) m4 c4)).frozen? ⟨w.heap.size, 2, none⟩ = false := HB4.out.frozen 2
  clear hb4 hx4 hc5 HCl HX3 HB43 HB53 HZ3 HB4 HB5
  go_wp2
  refine bodyPost_ret (v := cellV 0 old true) (by simp [results, Tryz.results53, go_sem, cellV, b40, b41, b42]) rfl ⟨S1, .slice (some A4) m4 c4, rfl, ?_, ?_, HG1.out, A4, m4, c4, rfl⟩
  · have hl : TxLt c g { t with tail := .slice (some A4) m4 c4 } w.heap.size := ⟨HLt.out.r, HLt.out.u, HLt.out.h, HLt.out.m, HLt.out.gw, HLt.out.g, HLt.out.words, HLt.out.inner, HLt.out.own, HLt.out.freed, HLt.out.held, HLt.out.cover⟩
    have hs := HS1.out _ (Nat.le_refl _) (by omega)
    exact (((HX5.out.other hl (Nat.le_refl _) hs 0 _).other hl (Nat.le_refl _) hs 1 _).other hl (Nat.le_refl _) hs 2 _)
  · exact ((HZ5.out.setCell (p := ⟨w.heap.size, 0, none⟩) (.inr (Nat.le_refl _)) _).setCell (p := ⟨w.heap.size, 1, none⟩) (.inr (Nat.le_refl _)) _).setCell (p := ⟨w.heap.size, 2, none⟩) (.inr (Nat.le_refl _)) _
set_option maxRecDepth 100000 in
set_option maxHeartbeats 8000000 in
theorem enter_undo2 {c : CX} {g : Nat} {w : World} {S : Fp} {t : TX} {D : DataW Unit} {n : Nat} {cur : Nat → Nat} {T : Nat} (h : TxS c g w S t D n cur T) (hmode : t.mode = 2) (htail : TailOk t.tail) {ws : List (Nat × Nat)} (o : Nat) (ho : OffOk 152 30 26 o) (hl : LogU cur 30 ws) (hwv : ∀ e ∈ ws, e.1 < 18446744073709551616) (hno : o ∉ ws.map (·.1)) (hc : ws.length + 1 ≤ 100) (hcv : ∀ i, cur i < 18446744073709551616) (hT : T ≤ 1000000) :
    Calls Tryz.prog 53 #[.pointer (some ⟨g, 0, none⟩), .int .u64 (o : Int)] w (RetEnter c g w S t D n (svC cur 1920 ws.length [o]) (T + 8) (cellV 0 (cur (o / 8)) true)) := by
  have HX := Lib.hid h
  have HLt := Lib.hid h.lts
  have HOo := Lib.hid ho
  have HLd := Lib.hid (load_at h.base.dev o (cur (o / 8)) ho.al ho.lt rfl)
  have HSn : Hid (∀ k, w.heap.size ≤ k → ¬ S k) := fun k hk hs => by have := h.base.dev.lt _ hs; omega
  have HSV : Hid (∀ W A0 c0, Below w.heap.size w W → Reads W W.heap.size 1 A0 1 (uCells [o]) → Calls Tryz.prog 131 #[.pointer (some ⟨c.x.u, 0, none⟩), .slice A0 1 c0] W (RetDev c.a 152 (T + 8) W S (svC cur 1920 ws.length [o]) 0 (.int .i64 0))) := fun W A0 c0 hW hr => by
    have hx := h.more_ hW
    exact saveU_any hx.base.dev c.x.u 30 26 hx.base.sys.u (by omega) (by omega) ws hl hwv A0 1 c0 [o] [o] (by simp [fr, frStep, hno]) hr (fun q hq => by simp at hq; subst hq; exact ho) (by simp; omega) (by omega) (by simp) (fun i _ => hcv i) (by simp; omega)
  have c7 : w.cell? ⟨g, 7, none⟩ = some (.int .u8 2) := (h.tx.cell 7).trans (by simp [txCells, hmode])
  have c6 : w.cell? ⟨g, 6, none⟩ = some (.pointer (some ⟨c.x.m, 0, none⟩)) := h.tx.cell 6
  have m0 : w.cell? ⟨c.x.m, 0, none⟩ = some (.pointer (some ⟨c.a.th 0, 0, none⟩)) := h.base.sys.m.cell 0
  obtain ⟨ta, tm, tc, htl⟩ := htail
  have HTl := Lib.hid htl
  have hlg : g < w.heap.size := h.tx.lt
  have hlm : c.x.m < w.heap.size := h.base.sys.m.lt
  clear h ho hl hwv hno hc hcv hmode htl
  generalize cur (o / 8) = old at *
  go_enter Tryz.func53, Tryz.ntmps53
  go_wp2_with fail
  refine (HLd.out _ ((Below.refl _ _).alloc (Nat.le_refl _) _)).mono ?_
  rintro e w1 ⟨rfl, rfl⟩
  go_wp2_with fail
  have hbw : Below w.heap.size w (((w.alloc (.cells #[.int .u64 0, .int .u64 0, .bool false] 107)).alloc (.cells #[.int .u64 0, .int .u64 (old : Int), .bool false] 107)).alloc (.cells #[.int .u64 (o : Int)] 35)) := (((Below.refl _ w).alloc (Nat.le_refl _) _).alloc (by simp) _).alloc (by simp; omega) _
  have HXW := Lib.hid (HX.out.more_ hbw)
  have HB4 := Lib.hid (((Blk.new w 107 #[.int .u64 0, .int .u64 0, .bool false]).alloc (.cells #[.int .u64 0, .int .u64 (old : Int), .bool false] 107)).alloc (.cells #[.int .u64 (o : Int)] 35))
  have HB5 := Lib.hid ((Blk.new2 w (.cells #[.int .u64 0, .int .u64 0, .bool false] 107) 107 #[.int .u64 0, .int .u64 (old : Int), .bool false]).alloc (.cells #[.int .u64 (o : Int)] 35))
  have HSave := Lib.hid (txSave HXW.out (HSV.out _ (some ⟨w.heap.size + 1 + 1, 0, none⟩) 1 hbw (one_u _ o _ (by simp))))
  have HZ0 : Hid (Chg (SG S g) w (((w.alloc (.cells #[.int .u64 0, .int .u64 0, .bool false] 107)).alloc (.cells #[.int .u64 0, .int .u64 (old : Int), .bool false] 107)).alloc (.cells #[.int .u64 (o : Int)] 35))) := Chg.of_below hbw
  have HLW : Hid (w.heap.size + 3 ≤ (((w.alloc (.cells #[.int .u64 0, .int .u64 0, .bool false] 107)).alloc (.cells #[.int .u64 0, .int .u64 (old : Int), .bool false] 107)).alloc (.cells #[.int .u64 (o : Int)] 35)).heap.size) := Lib.hid (by simp)
  generalize ((w.alloc (.cells #[.int .u64 0, .int .u64 0, .bool false] 107)).alloc (.cells #[.int .u64 0, .int .u64 (old : Int), .bool false] 107)).alloc (.cells #[.int .u64 (o : Int)] 35) = W at *
  clear hbw HSV HLd HX c6 c7 m0
  refine HSave.out.mono ?_
  intro e W1 h1
  obtain ⟨rfl, S1, hx1, hc1, hg1⟩ := HXW.out.step h1
  have HX1 := Lib.hid hx1
  have HB41 := Lib.hid (hc1.blk HB4.out (HSn.out _ (Nat.le_refl _)))
  have HB51 := Lib.hid (hc1.blk HB5.out (HSn.out _ (Nat.le_succ _)))
  have HZ1 := Lib.hid (HZ0.out.trans hc1 (fun k hk => .inl (.inl hk)))
  have HG1 : Hid (Grew S S1 w) := fun k hk => (hg1 k hk).elim .inl (fun h => .inr (by have := HLW.out; omega))
  have HS1 : Hid (∀ k, w.heap.size ≤ k → k < w.heap.size + 2 → ¬ S1 k) := fun k hk hk2 hs => (hg1 k hs).elim (HSn.out k hk) (fun h => by have := HLW.out; omega)
  clear h1 hx1 hc1 hg1 HSave HB4 HB5 HXW HZ0
  have z2 : W1.frozen? ⟨w.heap.size + 1, 2, none⟩ = false := HB51.out.frozen 2
  have d2 : W1.cell? ⟨w.heap.size + 1, 2, none⟩ = some (.bool false) := HB51.out.cell 2
  have HX2 := Lib.hid (HX1.out.other HLt.out (Nat.le_succ _) (HS1.out _ (Nat.le_succ _) (by omega)) 2 (.bool true))
  have HB42 := Lib.hid ((Chg.refl (fun j => j = w.heap.size + 1) W1).setCell (p := ⟨w.heap.size + 1, 2, none⟩) (.inl rfl) (.bool true) |>.blk HB41.out (by omega))
  have HB52 : Hid (Blk (W1.setCell ⟨w.heap.size + 1, 2, none⟩ (.bool true)) (w.heap.size + 1) 107 #[.int .u64 0, .int .u64 (old : Int), .bool true]) := Lib.hid (HB51.out.set_ 2 (.bool true))
  have HZ2 := Lib.hid (HZ1.out.setCell (p := ⟨w.heap.size + 1, 2, none⟩) (.inr (Nat.le_succ _)) (.bool true))
  have c13 : (W1.setCell ⟨w.heap.size + 1, 2, none⟩ (.bool true)).cell? ⟨g, 13, none⟩ = some (.slice (some ta) tm tc) := (HX2.out.tx.cell 13).trans (by simp [txCells, HTl.out])
  have c6 : (W1.setCell ⟨w.heap.size + 1, 2, none⟩ (.bool true)).cell? ⟨g, 6, none⟩ = some (.pointer (some ⟨c.x.m, 0, none⟩)) := HX2.out.tx.cell 6
  have m2 : (W1.setCell ⟨w.heap.size + 1, 2, none⟩ (.bool true)).cell? ⟨c.x.m, 2, none⟩ = some (.pointer (some ⟨c.x.u, 0, none⟩)) := HX2.out.base.sys.m.cell 2
  have hnil : ∀ W, (binOp .eql 87 (.slice (some ta) tm tc) (.slice none 0 0)).run Tryz.prog W = .ok (.bool false) W := fun W => Lib.run_eql_slice_some_nil W _ _ _ Tryz.underlying87
  have b50 : (W1.setCell ⟨w.heap.size + 1, 2, none⟩ (.bool true)).cell? ⟨w.heap.size + 1, 0, none⟩ = some (.int .u64 0) := HB52.out.cell 0
  have b51 : (W1.setCell ⟨w.heap.size + 1, 2, none⟩ (.bool true)).cell? ⟨w.heap.size + 1, 1, none⟩ = some (.int .u64 (old : Int)) := HB52.out.cell 1
  have b52 : (W1.setCell ⟨w.heap.size + 1, 2, none⟩ (.bool true)).cell? ⟨w.heap.size + 1, 2, none⟩ = some (.bool true) := HB52.out.cell 2
  have b40 : (W1.setCell ⟨w.heap.size + 1, 2, none⟩ (.bool true)).cell? ⟨w.heap.size, 0, none⟩ = some (.int .u64 0) := HB42.out.cell 0
  have b41 : (W1.setCell ⟨w.heap.size + 1, 2, none⟩ (.bool true)).cell? ⟨w.heap.size, 1, none⟩ = some (.int .u64 0) := HB42.out.cell 1
  have b42 : (W1.setCell ⟨w.heap.size + 1, 2, none⟩ (.bool true)).cell? ⟨w.heap.size, 2, none⟩ = some (.bool false) := HB42.out.cell 2
  have z40 : (W1.setCell ⟨w.heap.size + 1, 2, none⟩ (.bool true)).frozen? ⟨w.heap.size, 0, none⟩ = false := HB42.out.frozen 0
  have z41 : (W1.setCell ⟨w.heap.size + 1, 2, none⟩ (.bool true)).frozen? ⟨w.heap.size, 1, none⟩ = false := HB42.out.frozen 1
  have z42 : (W1.setCell ⟨w.heap.size + 1, 2, none⟩ (.bool true)).frozen? ⟨w.heap.size, 2, none⟩ = false := HB42.out.frozen 2
  clear HX1 HB41 HB51 HZ1 HB42 HB52 c6 m2
  go_wp2
  refine bodyPost_ret (v := cellV 0 old true) (by simp [results, Tryz.results53, go_sem, cellV, b40, b41, b42]) rfl ⟨S1, t.tail, rfl, ?_, ?_, HG1.out, ta, tm, tc, HTl.out⟩
  · have hs := HS1.out _ (Nat.le_refl _) (by omega)
    exact (((HX2.out.other HLt.out (Nat.le_refl _) hs 0 _).other HLt.out (Nat.le_refl _) hs 1 _).other HLt.out (Nat.le_refl _) hs 2 _)
  · exact ((HZ2.out.setCell (p := ⟨w.heap.size, 0, none⟩) (.inr (Nat.le_refl _)) _).setCell (p := ⟨w.heap.size, 1, none⟩) (.inr (Nat.le_refl _)) _).setCell (p := ⟨w.heap.size, 2, none⟩) (.inr (Nat.le_refl _)) _
theorem enter_any {c : CX} {g : Nat} {w : World} {S : Fp} {t : TX} {D : DataW Unit} {n : Nat} {cur : Nat → Nat} {T : Nat} (h : TxS c g w S t D n cur T) (hmode : t.mode = 2) {ws : List (Nat × Nat)} (htail : (t.tail = .slice none 0 0 ∧ ws = []) ∨ TailOk t.tail) (o : Nat) (ho : OffOk 152 30 26 o) (hl : LogU cur 30 ws) (hwv : ∀ e ∈ ws, e.1 < 18446744073709551616) (hno : o ∉ ws.map (·.1)) (hc : ws.length + 1 ≤ 100) (hcv : ∀ i, cur i < 18446744073709551616) (hT : T ≤ 1000000) :
    Calls Tryz.prog 53 #[.pointer (some ⟨g, 0, none⟩), .int .u64 (o : Int)] w (RetEnter c g w S t D n (svC cur 1920 ws.length [o]) (T + 8) (cellV 0 (cur (o / 8)) true)) := by
  rcases htail with ⟨h1, rfl⟩ | h1
  · exact enter_undo h hmode h1 o ho hl hcv hT
  · exact enter_undo2 h hmode h1 o ho hl hwv hno hc hcv hT
end Go.Proofs.YtklpeghhgoeeiaaGreatDoor
/- tx: Store in mode Undo. -/
namespace Go.Proofs.YtklpeghhgoeeiaaGreatDoor
open Go.RowKit Go.Maps
def RetTx (c : CX) (g : Nat) (t : TX) (D : DataW Unit) (n : Nat) (cur' : Nat → Nat) (T' : Nat) (v : Value) (e : Ending) (w' : World) : Prop :=
  ∃ S', e = .returned v ∧ TxS c g w' S' t D n cur' T'
/-- The device's blocks, the transaction's, the words'. -/
def SGW (S : Fp) (g k : Nat) : Fp := fun j => (S j ∨ j = g) ∨ j = k
def RetTxN (c : CX) (g : Nat) (w : World) (S : Fp) (t : TX) (D : DataW Unit) (n : Nat) (cur' : Nat → Nat) (T' : Nat) (v : Value) (e : Ending) (w' : World) : Prop :=
  ∃ tl S', e = .returned v ∧ TxS c g w' S' { t with tail := tl } D n cur' T' ∧ TailOk tl ∧ Chg (SGW S g t.words) w w' ∧ Grew S S' w
/-- A block of the caller's own gets a cell, then the value. -/
def put4 (W : World) (b v old : Nat) : World := (((W.setCell ⟨b, 0, none⟩ (.int .u64 0)).setCell ⟨b, 1, none⟩ (.int .u64 (old : Int))).setCell ⟨b, 2, none⟩ (.bool true)).setCell ⟨b, 0, none⟩ (.int .u64 (v : Int))
theorem TxS.put4 {c : CX} {g : Nat} {W : World} {S : Fp} {t : TX} {D : DataW Unit} {n : Nat} {cur : Nat → Nat} {T N : Nat} (h : TxS c g W S t D n cur T) (hl : TxLt c g t N) {b : Nat} (hb : N ≤ b) (hS : ¬ S b) (v old : Nat) : TxS c g (put4 W b v old) S t D n cur T :=
  (((h.other hl hb hS 0 _).other hl hb hS 1 _).other hl hb hS 2 _).other hl hb hS 0 _
theorem blk_put4 {W : World} {b : Nat} {tt : TypeId} {v1 x1 : Value} {p1 : Value} (h : Blk W b tt #[v1, x1, p1]) (v old : Nat) : Blk (put4 W b v old) b tt #[.int .u64 (v : Int), .int .u64 (old : Int), .bool true] :=
  (((h.set_ 0 (.int .u64 0)).set_ 1 (.int .u64 (old : Int))).set_ 2 (.bool true)).set_ 0 (.int .u64 (v : Int))
theorem put4_chg (W : World) (b v old : Nat) : Chg (fun j => j = b) W (put4 W b v old) :=
  ((((Chg.refl (fun j => j = b) W).setCell (p := ⟨b, 0, none⟩) (.inl rfl) _).setCell (p := ⟨b, 1, none⟩) (.inl rfl) _).setCell (p := ⟨b, 2, none⟩) (.inl rfl) _).setCell (p := ⟨b, 0, none⟩) (.inl rfl) _
set_option maxRecDepth 100000 in
set_option maxHeartbeats 8000000 in
theorem store_new {c : CX} {g : Nat} {w : World} {S : Fp} {t : TX} {D : DataW Unit} {n : Nat} {cur : Nat → Nat} {T : Nat} (h : TxS c g w S t D n cur T) (hop : t.open_ = true) (hmode : t.mode = 2) {ws : List (Nat × Nat)} (htail : (t.tail = .slice none 0 0 ∧ ws = []) ∨ TailOk t.tail) (o v : Nat) (ho : OffOk 152 30 26 o) (hD : has D (kU o) = false) (hsz : Maps.size D ≤ 95) (hn : n ≤ 1000) (hl : LogU cur 30 ws) (hwv : ∀ e ∈ ws, e.1 < 18446744073709551616) (hno : o ∉ ws.map (·.1)) (hc : ws.length + 1 ≤ 100) (hcv : ∀ i, cur i < 18446744073709551616) (hT : T ≤ 1000000) :
    Calls Tryz.prog 13 #[.pointer (some ⟨g, 0, none⟩), .int .u64 (o : Int), .int .u64 (v : Int)] w (RetTxN c g w S t (D.put (kU o) (cellD v (cur (o / 8)) true)) (n + 1) (upd (svC cur 1920 ws.length [o]) (o / 8) v) (T + 9) (.tuple #[])) := by
  have HX := Lib.hid h
  have HLt := Lib.hid h.lts
  have hov : o < 18446744073709551616 := by have := ho.lt; omega
  have HWd := Lib.hid (word_in h o ho.al ho.lt)
  have HMi := Lib.hid (mine_none h o hov)
  have HSn : Hid (∀ k, w.heap.size ≤ k → ¬ S k) := fun k hk hs => by have := h.base.dev.lt _ hs; omega
  obtain ⟨v1, x1, p1, hlk, _⟩ := look_cell h.maps.words hov
  rw [hD] at hlk
  have hbw : Below w.heap.size w (w.alloc (.cells #[.int .u64 (v1 : Int), .int .u64 (x1 : Int), .bool p1] 107)) := (Below.refl _ w).alloc (Nat.le_refl _) _
  have hxw := h.more_ hbw
  have HEn := Lib.hid (enter_any hxw hmode htail o ho hl hwv hno hc hcv hT)
  have hlen : ∀ ty, (Builtin.len_ #[95] ty #[.map (some t.words)]).run Tryz.prog (w.alloc (.cells #[.int .u64 (v1 : Int), .int .u64 (x1 : Int), .bool p1] 107)) = .ok (.int .i64 (Maps.size D)) (w.alloc (.cells #[.int .u64 (v1 : Int), .int .u64 (x1 : Int), .bool p1] 107)) := fun ty => hxw.maps.words.len Tryz.underlying95 ty
  have e96 : decide (96 ≤ (Maps.size D : Int)) = false := decide_eq_false (by omega)
  have HB6 := Lib.hid (Blk.new w 107 #[.int .u64 (v1 : Int), .int .u64 (x1 : Int), .bool p1])
  have c8 : w.cell? ⟨g, 8, none⟩ = some (.bool true) := (h.tx.cell 8).trans (by simp [txCells, hop])
  have c0 : w.cell? ⟨g, 0, none⟩ = some (.map (some t.words)) := h.tx.cell 0
  have d0 : (w.alloc (.cells #[.int .u64 (v1 : Int), .int .u64 (x1 : Int), .bool p1] 107)).cell? ⟨g, 0, none⟩ = some (.map (some t.words)) := hxw.tx.cell 0
  have hlg : g < w.heap.size := h.tx.lt
  have HOk := Lib.hid ho
  have HSz := Lib.hid (show w.heap.size ≤ (w.alloc (.cells #[.int .u64 (v1 : Int), .int .u64 (x1 : Int), .bool p1] 107)).heap.size from by simp)
  have HZa : Hid (Chg (SGW S g t.words) w (w.alloc (.cells #[.int .u64 (v1 : Int), .int .u64 (x1 : Int), .bool p1] 107))) := Lib.hid (Chg.of_below hbw)
  clear h hxw hbw ho hl hwv hno hc hcv hop hmode htail hD
  unfold cellV at hlk
  go_enter Tryz.func13, Tryz.ntmps13
  go_wp2_with (first
    | (go_at_call 51; refine HWd.out.mono ?_; rintro e w1 ⟨rfl, rfl⟩)
    | (go_at_call 52; refine HMi.out.mono ?_; rintro e w1 ⟨rfl, rfl⟩)
    | (go_at_call 53; refine stop ?_)
    | go_in)
  unfold Stop
  refine HEn.out.mono ?_
  generalize cur (o / 8) = old at *
  rintro e W1 ⟨S1, tl, rfl, hx1, hz1, hg1, htl⟩
  have HTl := Lib.hid htl
  have HG1 : Hid (Grew S S1 w) := Lib.hid (fun k hk => (hg1 k hk).elim .inl (fun h => .inr (Nat.le_trans HSz.out h)))
  have HZ1 := Lib.hid (HZa.out.trans hz1 (fun k hk => .inl (.inl hk)))
  clear htl
  unfold cellV
  have HX1 := Lib.hid hx1
  have HB61 := Lib.hid (hz1.blk HB6.out (by rintro (h | h) <;> first | exact HSn.out _ (Nat.le_refl _) h | omega))
  have HS6 : Hid (¬ S1 w.heap.size) := fun h => (hg1 _ h).elim (HSn.out _ (Nat.le_refl _)) (fun h => by simp at h; omega)
  clear hx1 hz1 hg1 HB6 HX HWd HMi
  have b0 : W1.cell? ⟨w.heap.size, 0, none⟩ = some (.int .u64 (v1 : Int)) := HB61.out.cell 0
  have b1 : W1.cell? ⟨w.heap.size, 1, none⟩ = some (.int .u64 (x1 : Int)) := HB61.out.cell 1
  have b2 : W1.cell? ⟨w.heap.size, 2, none⟩ = some (.bool p1) := HB61.out.cell 2
  have z0 : W1.frozen? ⟨w.heap.size, 0, none⟩ = false := HB61.out.frozen 0
  have z1 : W1.frozen? ⟨w.heap.size, 1, none⟩ = false := HB61.out.frozen 1
  have z2 : W1.frozen? ⟨w.heap.size, 2, none⟩ = false := HB61.out.frozen 2
  have hl2 : TxLt c g { t with tail := tl } w.heap.size := ⟨HLt.out.r, HLt.out.u, HLt.out.h, HLt.out.m, HLt.out.gw, HLt.out.g, HLt.out.words, HLt.out.inner, HLt.out.own, HLt.out.freed, HLt.out.held, HLt.out.cover⟩
  have HX2 := Lib.hid (HX1.out.put4 hl2 (Nat.le_refl _) HS6.out v old)
  have HB62 := Lib.hid (blk_put4 HB61.out v old)
  have HZ2 := Lib.hid (HZ1.out.trans (put4_chg W1 w.heap.size v old) (fun k hk => .inr (by rw [hk]; exact Nat.le_refl _)))
  have HW2 : Hid (put4 W1 w.heap.size v old = (((W1.setCell ⟨w.heap.size, 0, none⟩ (.int .u64 0)).setCell ⟨w.heap.size, 1, none⟩ (.int .u64 (old : Int))).setCell ⟨w.heap.size, 2, none⟩ (.bool true)).setCell ⟨w.heap.size, 0, none⟩ (.int .u64 (v : Int))) := Lib.hid rfl
  have k6 : ((((W1.setCell ⟨w.heap.size, 0, none⟩ (.int .u64 0)).setCell ⟨w.heap.size, 1, none⟩ (.int .u64 (old : Int))).setCell ⟨w.heap.size, 2, none⟩ (.bool true)).setCell ⟨w.heap.size, 0, none⟩ (.int .u64 (v : Int))).cell? ⟨g, 6, none⟩ = some (.pointer (some ⟨c.x.m, 0, none⟩)) := HX2.out.tx.cell 6
  have k0 : ((((W1.setCell ⟨w.heap.size, 0, none⟩ (.int .u64 0)).setCell ⟨w.heap.size, 1, none⟩ (.int .u64 (old : Int))).setCell ⟨w.heap.size, 2, none⟩ (.bool true)).setCell ⟨w.heap.size, 0, none⟩ (.int .u64 (v : Int))).cell? ⟨c.x.m, 0, none⟩ = some (.pointer (some ⟨c.a.th 0, 0, none⟩)) := HX2.out.base.sys.m.cell 0
  go_wp2_with fail
  rw [← HW2.out]
  generalize put4 W1 w.heap.size v old = W2 at *
  clear k6 k0 b0 b1 b2 z0 z1 z2 HX1 HB61 HW2
  refine (store_dev HX2.out.base.dev o v HOk.out.al HOk.out.lt (by omega)).mono ?_
  intro e W3 h3
  obtain ⟨rfl, S3, hx3, hc3, hg3⟩ := HX2.out.step h3
  have HX3 := Lib.hid hx3
  have HB63 := Lib.hid (hc3.blk HB62.out HS6.out)
  have HZ3 := Lib.hid (HZ2.out.trans hc3 (fun k hk => (HG1.out k hk).elim (fun h => .inl (.inl (.inl h))) .inr))
  have HG3 : Hid (Grew S S3 w) := Lib.hid (fun k hk => (hg3 k hk).elim (HG1.out k) (fun h => .inr (Nat.le_trans HZ2.out.size h)))
  clear h3 hx3 hc3 hg3 HX2 HB62
  go_wp2
  have HX3d : Hid (TxS c g W3.drew S3 { t with tail := tl } D n (upd (svC cur 1920 ws.length [o]) (o / 8) v) (T + 8 + 1)) := Lib.hid (HX3.out.more_ (Below.refl _ _).drew)
  obtain ⟨w3, hrun, hos, hgr⟩ := HX3d.out.maps.words.update keyedU Tryz.underlying95 (by unfold maxLen; omega) (keyU hov) (cellR_mk v old true)
  have HX4 := Lib.hid (HX3d.out.put hgr hos)
  have HZ4 := Lib.hid (HZ3.out.drew.grown hgr (fun g hg => .inl (.inr (by cases hg; rfl))))
  unfold cellV at hrun
  clear hos hgr
  have HS0 : Hid (W3.drew.cell? ⟨g, 0, none⟩ = some (.map (some t.words)) ∧ W3.drew.cell? ⟨w.heap.size, 0, none⟩ = some (.int .u64 (v : Int)) ∧ W3.drew.cell? ⟨w.heap.size, 1, none⟩ = some (.int .u64 (old : Int)) ∧ W3.drew.cell? ⟨w.heap.size, 2, none⟩ = some (.bool true)) := Lib.hid ⟨HX3d.out.tx.cell 0, HB63.out.cell 0, HB63.out.cell 1, HB63.out.cell 2⟩
  refine wp_region_script (fun w' => w'.cell? ⟨g, 0, none⟩ = some (.map (some t.words)) ∧ w'.cell? ⟨w.heap.size, 0, none⟩ = some (.int .u64 (v : Int)) ∧ w'.cell? ⟨w.heap.size, 1, none⟩ = some (.int .u64 (old : Int)) ∧ w'.cell? ⟨w.heap.size, 2, none⟩ = some (.bool true)) 7 [(true, 0), (true, 1), (true, 2), (true, 3), (true, 4), (true, 5), (true, 6)] (by kernel_rfl) (by kernel_rfl) HS0.out ?_
  refine wpScript_take (.pointer (some ⟨g, 0, none⟩)) (by rfl) (by rfl) (fun w' hS => ?_) ?_
  · go_simp
  simp only [List.getElem_toArray, List.getElem_cons_zero, Act.put, List.setIfInBounds_toArray, List.set_cons_zero, List.set_cons_succ]
  refine wpScript_take (.pointer (some ⟨g, 0, none⟩)) (by rfl) (by rfl) (fun w' hS => ?_) ?_
  · go_simp
  simp only [List.getElem_toArray, List.getElem_cons_zero, List.getElem_cons_succ, Act.put, List.setIfInBounds_toArray, List.set_cons_zero, List.set_cons_succ]
  refine wpScript_take (.pointer (some ⟨g, 0, none⟩)) (by rfl) (by rfl) (fun w' hS => ?_) ?_
  · go_simp
  simp only [List.getElem_toArray, List.getElem_cons_zero, List.getElem_cons_succ, Act.put, List.setIfInBounds_toArray, List.set_cons_zero, List.set_cons_succ]
  refine wpScript_take (.pointer (some ⟨g, 0, none⟩)) (by rfl) (by rfl) (fun w' hS => ?_) ?_
  · go_simp
  simp only [List.getElem_toArray, List.getElem_cons_zero, List.getElem_cons_succ, Act.put, List.setIfInBounds_toArray, List.set_cons_zero, List.set_cons_succ]
  refine wpScript_take (.map (some t.words)) (by rfl) (by rfl) (fun w' hS => ?_) ?_
  · obtain ⟨f1, _, _, _⟩ := hS
    go_simp
  simp only [List.getElem_toArray, List.getElem_cons_zero, List.getElem_cons_succ, Act.put, List.setIfInBounds_toArray, List.set_cons_zero, List.set_cons_succ]
  refine wpScript_take (.int .u64 (o : Int)) (by rfl) (by rfl) (fun w' hS => ?_) ?_
  · go_simp
  simp only [List.getElem_toArray, List.getElem_cons_zero, List.getElem_cons_succ, Act.put, List.setIfInBounds_toArray, List.set_cons_zero, List.set_cons_succ]
  refine wpScript_take (.agg #[.int .u64 (v : Int), .int .u64 (old : Int), .bool true]) (by rfl) (by rfl) (fun w' hS => ?_) ?_
  · obtain ⟨_, f1, f2, f3⟩ := hS
    go_simp
  simp only [List.getElem_toArray, List.getElem_cons_zero, List.getElem_cons_succ, Act.put, List.setIfInBounds_toArray, List.set_cons_zero, List.set_cons_succ]
  show wpList _ _ _ _ _ _
  simp only [List.drop_succ_cons, List.drop_zero]
  go_wp2
  refine NoPanic.normal ?_
  go_wp2
  go_end0
  exact ⟨tl, S3, rfl, HX4.out, HTl.out, HZ4.out, HG3.out⟩
end Go.Proofs.YtklpeghhgoeeiaaGreatDoor
