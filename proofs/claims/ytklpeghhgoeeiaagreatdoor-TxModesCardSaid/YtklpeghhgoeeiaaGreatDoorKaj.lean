/- The walks and laws that the claim leans on, part 10: each part says ahead of its lines what it holds. -/
import Derived.Test.YtklpeghhgoeeiaaGreatDoorKai
/- device.New. -/
namespace Go.Proofs.YtklpeghhgoeeiaaGreatDoor
open Go.RowKit
theorem made_at (z : Array Value) (n i : Nat) (h : i < n) : (madeCells z n)[i]? = some z[i % z.size]! := by
  unfold madeCells
  rw [Array.getElem?_map, Array.getElem?_range, if_pos h]
  rfl
theorem made_line (L i : Nat) (hi : i < L) : (madeCells (Value.agg #[.int .u64 0, .slice none 0 0]).cells (L * 2))[i * 2]? = some (.int .u64 0) ∧ (madeCells (Value.agg #[.int .u64 0, .slice none 0 0]).cells (L * 2))[i * 2 + 1]? = some (.slice none 0 0) := by
  have hz : (Value.agg #[.int .u64 0, .slice none 0 0]).cells = #[.int .u64 0, .slice none 0 0] := rfl
  rw [hz, made_at _ _ _ (by omega), made_at _ _ _ (by omega)]
  have e1 : i * 2 % (#[Value.int .u64 0, Value.slice none 0 0] : Array Value).size = 0 := by show i * 2 % 2 = 0; omega
  have e2 : (i * 2 + 1) % (#[Value.int .u64 0, Value.slice none 0 0] : Array Value).size = 1 := by show (i * 2 + 1) % 2 = 1; omega
  rw [e1, e2]
  exact ⟨rfl, rfl⟩
/-- A new device. -/
def RetNew (w : World) (L : Nat) (e : Ending) (w' : World) : Prop := ∃ (a : DA) (S : Fp), e = .returned (.tuple #[.pointer (some ⟨a.d, 0, none⟩), .int .i64 0]) ∧ Dev a L 0 w' S (fun _ => 0) 0 ∧ (∀ k, S k → w.heap.size ≤ k) ∧ Below w.heap.size w w'
theorem dev_cells {dc : Array Value} {a : DA} {L : Nat} (hs : dc.size = 15) (e0 : dc[0]? = some (.slice (some ⟨a.pb, 0, none⟩) (8 * L) (8 * L))) (e1 : dc[1]? = some (.slice (some ⟨a.cb, 0, none⟩) (8 * L) a.cc)) (e2 : dc[2]? = some (.slice (some ⟨a.lb, 0, none⟩) L L)) (e3 : dc[11]? = some (.bool false)) (e4 : dc[12]? = some (.bool false)) (e5 : dc[13]? = some (.int .i64 0)) (e6 : dc[14]? = some (.int .u64 0))
    (e7 : ∀ j, j < 8 → dc[3 + j]? = some (.pointer (some ⟨a.th j, 0, none⟩))) : dc = devCells a L 0 := by
  apply Array.ext_getElem?
  intro i
  by_cases hi : i < 15
  · rcases (show i = 0 ∨ i = 1 ∨ i = 2 ∨ i = 3 ∨ i = 4 ∨ i = 5 ∨ i = 6 ∨ i = 7 ∨ i = 8 ∨ i = 9 ∨ i = 10 ∨ i = 11 ∨ i = 12 ∨ i = 13 ∨ i = 14 by omega) with rfl | rfl | rfl | rfl | rfl | rfl | rfl | rfl | rfl | rfl | rfl | rfl | rfl | rfl | rfl
    · exact e0
    · exact e1
    · exact e2
    · exact e7 0 (by omega)
    · exact e7 1 (by omega)
    · exact e7 2 (by omega)
    · exact e7 3 (by omega)
    · exact e7 4 (by omega)
    · exact e7 5 (by omega)
    · exact e7 6 (by omega)
    · exact e7 7 (by omega)
    · exact e3
    · exact e4
    · exact e5
    · exact e6
  · rw [Array.getElem?_eq_none (by omega), Array.getElem?_eq_none (by show 15 ≤ i; omega)]
theorem dev_new {w w' : World} {L d cb cc lb : Nat} {per cs ls : Array Value} {th nt : Nat → Nat} (hL : L ≤ 4096) (hp : per = madeCells #[.int .u64 0] (8 * L)) (H : OfI (w.alloc (.cells per 35)) w' w.heap.size L d cb cc lb cs ls th nt 8) (h1 : cs.size = cc) (h2 : 8 * L ≤ cc) (h3 : cc ≤ 9223372036854775807)
    (hru : RowU cs (List.replicate (8 * L) 0)) (hls : ls = madeCells (Value.agg #[.int .u64 0, .slice none 0 0]).cells (L * 2)) (g1 : (w.alloc (.cells per 35)).heap.size ≤ cb) (g2 : (w.alloc (.cells per 35)).heap.size ≤ lb) :
    RetNew w L (.returned (.tuple #[.pointer (some ⟨d, 0, none⟩), .int .i64 0])) w' := by
  obtain ⟨⟨dc, hd, hds, e0, e1, e2, e3, e4, e5, e6, e7⟩, hcu, hli, hth, hmp, hbl, hgd, hgt⟩ := H
  have hsz : (w.alloc (.cells per 35)).heap.size = w.heap.size + 1 := by simp
  rw [hsz] at g1 g2 hgd hgt
  have hbw : Below w.heap.size w w' := ((Below.refl w.heap.size w).alloc (Nat.le_refl _) _).trans (hbl.mono (by omega))
  have hpb : Blk w' w.heap.size 35 per := (Blk.new w 35 per).below hbl (Blk.new w 35 per).lt
  have hdc := dev_cells (a := ⟨d, w.heap.size, cb, lb, nt, th, cc⟩) hds e0 e1 e2 e3 e4 e5 e6 e7
  subst hdc
  have hmz := hmp (by omega)
  have hml := hmz.lt
  refine ⟨⟨d, w.heap.size, cb, lb, nt, th, cc⟩, fun k => w.heap.size ≤ k ∧ k < w'.heap.size, rfl, ⟨⟨fun _ => 0, fun _ => 0, fun _ => .slice none 0 0, fun _ => []⟩, 0, per, cs, ls, ?_, ⟨[], hmz, fun p hp => by cases hp⟩⟩, fun k hk => hk.1, hbw⟩
  exact {
    dev := hd
    perB := hpb
    perS := by rw [hp, size_madeCells]
    perI := fun i hi => ⟨0, by rw [hp, made_at _ _ _ hi]; congr 1; show (#[Value.int .u64 0] : Array Value)[i % 1]! = _; rw [Nat.mod_one]; rfl⟩
    curB := hcu
    curS := h1
    curL := h2
    curM := h3
    curI := fun i hi => by have := hru.2 i (by simpa using hi); simpa using this
    linB := hli
    linS := by rw [hls, size_madeCells]; omega
    linD := fun i hi => by rw [hls]; exact (made_line L i hi).1
    linH := fun i hi => by rw [hls]; exact (made_line L i hi).2
    own := fun i hi => World.ownsRow_nil _ _ _ _
    ok := fun i hi k hk => absurd hk (by simp)
    few := fun i hi => Nat.le_refl _
    apart := fun i j g hi hj h => by cases h
    thr := hth
    sd := ⟨by show w.heap.size ≤ d; omega, hd.lt⟩
    sp := ⟨Nat.le_refl _, hpb.lt⟩
    sc := ⟨by show w.heap.size ≤ cb; omega, hcu.lt⟩
    sl := ⟨by show w.heap.size ≤ lb; omega, hli.lt⟩
    sn := ⟨by have := (hgt 0 (by omega)).2; show w.heap.size ≤ nt 0; omega, hml⟩
    st := fun j hj => ⟨by have := (hgt j hj).1; show w.heap.size ≤ th j; omega, (hth j hj).lt⟩
    sh := fun i g hi h => by cases h
    lt := fun k hk => hk.2
    ne := by show w.heap.size ≠ cb; omega
    hL := hL
    hT := by omega }
set_option maxRecDepth 100000 in
set_option maxHeartbeats 4000000 in
theorem new_any (L : Nat) (h0 : 0 < L) (hL : L ≤ 4096) (w : World) : Calls Tryz.prog 40 #[.int .i64 (L : Int)] w (RetNew w L) := by
  obtain ⟨j0, hj0, hk0, hk1, hk2⟩ := info_parts infoU64
  have hmk : ∀ W : World, (Instr.makeSlice 57 (.int .i64 ((8 * L : Nat) : Int)) (.int .i64 ((8 * L : Nat) : Int))).run Tryz.prog W = .ok (.slice (some ⟨W.heap.size, 0, none⟩) (8 * L) (8 * L)) (W.alloc (.cells (madeCells #[.int .u64 0] (8 * L)) 35)) := fun W => by
    have h := run_makeSlice (P := Tryz.prog) W 57 35 j0 (.int .u64 0) Tryz.underlying57 hj0 hk0 .i64 .i64 ((8 * L : Nat) : Int) ((8 * L : Nat) : Int) (by omega) (by omega) (by rw [hk1]; omega) (by rw [hk2]; omega) (by omega)
    rw [hk1, Int.toNat_natCast, Nat.mul_one] at h
    exact h
  have HO := Lib.hid (of_any w.heap.size L hL h0 (w.alloc (.cells (madeCells #[.int .u64 0] (8 * L)) 35)) (by
    rw [show (w.alloc (.cells (madeCells #[.int .u64 0] (8 * L)) 35)).heap.size = w.heap.size + 1 by simp]
    refine row_reads_at w _ rfl _ (8 * L) 1 35 _ ?_ ?_
    · refine congrArg (fun x => Obj.cells x 35) (Array.ext' ?_)
      rw [toList_madeCells_one]
      simp [uCells]
    · simp [uCells]))
  have HN : Hid (∀ e w', RetOf (w.alloc (.cells (madeCells #[.int .u64 0] (8 * L)) 35)) w.heap.size L e w' → ∃ d : Nat, e = .returned (.pointer (some ⟨d, 0, none⟩)) ∧ RetNew w L (.returned (.tuple #[.pointer (some ⟨d, 0, none⟩), .int .i64 0])) w') := by
    rintro e w1 ⟨d, cb, cc, lb, cs, ls, th, nt, rfl, h1, h2, h3, h4, h5, h6, h7, h8⟩
    exact ⟨d, rfl, dev_new hL rfl h1 h2 h3 h4 h5 h6 h7 h8⟩
  have e1 : decide ((L : Int) < 1) = false := decide_eq_false (by omega)
  have e2 : decide ((4096 : Int) < (L : Int)) = false := decide_eq_false (by omega)
  have u1 : IntKind.i64.wrap ((L : Int) * 8) = ((8 * L : Nat) : Int) := by rw [IntKind.wrap_i64]; omega
  have u2 : (L : Int) * 8 = ((8 * L : Nat) : Int) := by omega
  generalize madeCells #[.int .u64 0] (8 * L) = M at *
  generalize 8 * L = N at *
  go_enter Tryz.func40, Tryz.ntmps40
  go_wp2_with (go_at_call 104; refine HO.out.mono ?_; intro e w1 h1; obtain ⟨d, rfl, h2⟩ := HN.out e w1 h1; have HZ := Lib.hid h2; clear h1 h2)
  go_ret2
  exact HZ.out
end Go.Proofs.YtklpeghhgoeeiaaGreatDoor
/- undo.Open, redo.Open. -/
namespace Go.Proofs.YtklpeghhgoeeiaaGreatDoor
open Go.RowKit
/-- The cells of an undo log. -/
def ulogCells (a : DA) (s n : Nat) : Array Value := #[memV a, .int .u64 ((64 * s : Nat) : Int), .int .i64 (n : Int)]
set_option maxRecDepth 100000 in
set_option maxHeartbeats 4000000 in
theorem undoOpen_any {a : DA} {L T : Nat} {w : World} {S : Fp} {cur : Nat → Nat} {F : Nat} (h : Dev a L T w S cur F) (s n : Nat) (hn : 2 ≤ n) (hs : s + n ≤ L) :
    Calls Tryz.prog 114 #[memV a, .int .i64 (s : Int), .int .i64 (n : Int)] w fun e w' => e = .returned (.tuple #[.pointer (some ⟨w.heap.size, 0, none⟩), .int .i64 0]) ∧ w' = w.alloc (.cells (ulogCells a s n) 186) := by
  obtain ⟨ls, exe, per, cs, lsC, hdc, hnt⟩ := h
  have hL := hdc.hL
  obtain ⟨f0, f2, _, _, _⟩ := hdc.facts (j := 0) (by omega)
  clear hdc hnt
  have hq := eqMem (some ⟨a.th 0, 0, none⟩)
  have hmS := methSize (some ⟨a.th 0, 0, none⟩)
  unfold memV ulogCells memV
  have e1 : decide ((s : Int) < 0) = false := decide_eq_false (by omega)
  have e2 : decide ((n : Int) < 2) = false := decide_eq_false (by omega)
  have u1 : IntKind.u64.wrap ((L : Int) * 64) = (L : Int) * 64 := by rw [IntKind.wrap_u64]; omega
  have u2 : IntKind.u64.wrap (n : Int) = (n : Int) := by rw [IntKind.wrap_u64]; omega
  have u3 : IntKind.u64.wrap (s : Int) = (s : Int) := by rw [IntKind.wrap_u64]; omega
  have u4 : IntKind.u64.wrap ((L : Int) - (n : Int)) = (L : Int) - (n : Int) := by rw [IntKind.wrap_u64]; omega
  have u5 : IntKind.u64.wrap ((s : Int) * 64) = ((64 * s : Nat) : Int) := by rw [IntKind.wrap_u64]; omega
  have d1 : ((L : Int) * 64).tdiv 64 = (L : Int) := by rw [Int.mul_tdiv_cancel _ (by decide)]
  have e3 : decide ((L : Int) < (n : Int)) = false := decide_eq_false (by omega)
  have e4 : decide ((L : Int) - (n : Int) < (s : Int)) = false := decide_eq_false (by omega)
  go_enter Tryz.func114, Tryz.ntmps114
  go_wp2
  go_ret2
  exact ⟨rfl, rfl⟩
set_option maxRecDepth 100000 in
set_option maxHeartbeats 4000000 in
theorem redoOpen_any {a : DA} {L T : Nat} {w : World} {S : Fp} {cur : Nat → Nat} {F : Nat} (h : Dev a L T w S cur F) (s n : Nat) (hn : 26 ≤ n) (hs : s + n ≤ L) :
    Calls Tryz.prog 113 #[memV a, .int .i64 (s : Int), .int .i64 (n : Int)] w fun e w' => e = .returned (.tuple #[.pointer (some ⟨w.heap.size, 0, none⟩), .int .i64 0]) ∧ w' = w.alloc (.cells (logCells a s n) 246) := by
  have HH := Lib.hid (handle_any h s n hn hs)
  clear h
  unfold memV at *
  go_enter Tryz.func113, Tryz.ntmps113
  go_wp2_with (go_at_call 105; refine HH.out.mono ?_; rintro e w1 ⟨rfl, rfl⟩)
  go_ret2
  exact ⟨rfl, rfl⟩
end Go.Proofs.YtklpeghhgoeeiaaGreatDoor
/- redo: look and Recover of an idle log. -/
namespace Go.Proofs.YtklpeghhgoeeiaaGreatDoor
open Go.RowKit
theorem aheadLoad (p : Addr) (w : World) : (nilAhead 466 53 (.pointer (some p)) "Load").run Tryz.prog w = .ok (some false) w := by kernel_rfl
theorem load_at {a : DA} {L T : Nat} {w : World} {S : Fp} {cur : Nat → Nat} {F : Nat} (h : Dev a L T w S cur F) (off v : Nat) (h8 : off % 8 = 0) (hlt : off < 64 * L) (hv : cur (off / 8) = v) (W : World) (hW : Below w.heap.size w W) :
    Calls Tryz.prog 19 #[.pointer (some ⟨a.th 0, 0, none⟩), .int .u64 (off : Int)] W fun e w' => e = .returned (.int .u64 (v : Int)) ∧ W = w' := by
  obtain ⟨s, exe, per, cs, ls, hdc, _⟩ := h.below hW
  subst hv
  exact load_any hdc (by omega) off h8 hlt
set_option maxRecDepth 100000 in
set_option maxHeartbeats 4000000 in
theorem look_idle {a : DA} {L T : Nat} {w : World} {S : Fp} {cur : Nat → Nat} {F : Nat} (h : Dev a L T w S cur F) (g s n : Nat) (hB : Blk w g 246 (logCells a s n)) (hs : s < L) (h0 : cur (8 * s) = 0) :
    Calls Tryz.prog 175 #[.pointer (some ⟨g, 0, none⟩)] w fun e w' => e = .returned (.tuple #[.int .u8 1, .slice none 0 0]) ∧ Below w.heap.size w w' := by
  have HLd := Lib.hid (load_at h (64 * s) 0 (by omega) (by omega) (by rw [show 64 * s / 8 = 8 * s by omega]; exact h0))
  have hna := aheadLoad ⟨a.th 0, 0, none⟩
  have hm := methLoad (some ⟨a.th 0, 0, none⟩)
  have HBB := Lib.hid hB
  have f0 : w.cell? ⟨g, 0, none⟩ = some (memV a) := hB.cell 0
  have f1 : w.cell? ⟨g, 1, none⟩ = some (.int .u64 ((64 * s : Nat) : Int)) := hB.cell 1
  have HB0 : Hid (Below w.heap.size w w.drew) := (Below.refl _ _).drew
  unfold memV at *
  generalize 64 * s = z at *
  clear hB h
  go_enter Tryz.func175, Tryz.ntmps175
  go_wp2_with fail
  go_cut [5] from 16 to 24 (fun v wx => v = .int .u64 0 ∧ Hid (Below w.heap.size w wx))
  case first =>
    go_region_with (go_at_call 19; refine (HLd.out _ HB0.out).mono ?_; rintro e w1 ⟨rfl, rfl⟩)
    all_goals (go_wp2_with fail; go_meet; exact ⟨rfl, HB0⟩)
  case rest =>
    obtain ⟨rfl, HW⟩ := hcut
    go_wp2
    go_ret2
    exact ⟨rfl, HW.out⟩
end Go.Proofs.YtklpeghhgoeeiaaGreatDoor
/- redo.Recover of an idle log. -/
namespace Go.Proofs.YtklpeghhgoeeiaaGreatDoor
open Go.RowKit
set_option maxRecDepth 100000 in
set_option maxHeartbeats 4000000 in
theorem redoRecover_idle {a : DA} {L T : Nat} {w : World} {S : Fp} {cur : Nat → Nat} {F : Nat} (h : Dev a L T w S cur F) (g s n : Nat) (hB : Blk w g 246 (logCells a s n)) (hs : s < L) (h0 : cur (8 * s) = 0) :
    Calls Tryz.prog 115 #[.pointer (some ⟨g, 0, none⟩)] w fun e w' => e = .returned (.tuple #[.int .i64 0, .int .i64 0]) ∧ Below w.heap.size w w' := by
  have HL := Lib.hid (look_idle h g s n hB hs h0)
  have HD := Lib.hid h
  have HBB := Lib.hid hB
  have c0 : w.cell? ⟨g, 0, none⟩ = some (memV a) := hB.cell 0
  obtain ⟨ls, exe, per, cs, lsC, hdc, hnt⟩ := h
  obtain ⟨f0, _, _, _, f4⟩ := hdc.facts (j := 0) (by omega)
  have hmE := methErr (some ⟨a.th 0, 0, none⟩)
  have hq := eqMem (some ⟨a.th 0, 0, none⟩)
  clear hdc hnt hB
  unfold memV at *
  go_enter Tryz.func115, Tryz.ntmps115
  go_wp2_with (first
    | (go_at_call 175; refine HL.out.mono ?_; rintro e w1 ⟨rfl, hb1⟩; have HW := Lib.hid hb1; have d0 : w1.cell? ⟨g, 0, none⟩ = some (.iface 53 (.pointer (some ⟨a.th 0, 0, none⟩))) := (HBB.out.below hb1 HBB.out.lt).cell 0; obtain ⟨ls1, exe1, per1, cs1, lsC1, hdc1, hnt1⟩ := HD.out.below hb1; obtain ⟨k0, _, _, _, k4⟩ := hdc1.facts (j := 0) (by omega); clear hb1 hdc1 hnt1)
    | go_in)
  go_ret2
  exact ⟨rfl, HW.out⟩
end Go.Proofs.YtklpeghhgoeeiaaGreatDoor
/- undo: Saved and Recover where nothing is saved. -/
namespace Go.Proofs.YtklpeghhgoeeiaaGreatDoor
open Go.RowKit
set_option maxRecDepth 100000 in
set_option maxHeartbeats 4000000 in
theorem saved_none {a : DA} {L T : Nat} {w : World} {S : Fp} {cur : Nat → Nat} {F : Nat} (h : Dev a L T w S cur F) (g s n : Nat) (hB : Blk w g 186 (ulogCells a s n)) (hs : s < L) (hn : 2 ≤ n) (hn2 : n ≤ 4096) (h0 : cur (8 * s) = 0) :
    Calls Tryz.prog 254 #[.pointer (some ⟨g, 0, none⟩)] w fun e w' => e = .returned (.slice none 0 0) ∧ Below w.heap.size w w' := by
  have HLd := Lib.hid (load_at h (64 * s) 0 (by omega) (by omega) (by rw [show 64 * s / 8 = 8 * s by omega]; exact h0))
  have hm := methLoad (some ⟨a.th 0, 0, none⟩)
  have hna := aheadLoad ⟨a.th 0, 0, none⟩
  have hq := eqMem (some ⟨a.th 0, 0, none⟩)
  have HBB := Lib.hid hB
  have f0 : w.cell? ⟨g, 0, none⟩ = some (memV a) := hB.cell 0
  have f1 : w.cell? ⟨g, 1, none⟩ = some (.int .u64 ((64 * s : Nat) : Int)) := hB.cell 1
  have HB0 : Hid (Below w.heap.size w w.drew) := (Below.refl _ _).drew
  have u1 : IntKind.u64.wrap (4 * ((n : Int) - 1)) = 4 * ((n : Int) - 1) := by rw [IntKind.wrap_u64]; omega
  have e1 : decide (4 * ((n : Int) - 1) < 0) = false := decide_eq_false (by omega)
  have hz0 : (2 : Int) ≤ (n : Int) := by omega
  have hz1 : (n : Int) ≤ 4096 := by omega
  unfold memV at *
  generalize 64 * s = z at *
  clear hB h
  go_enter Tryz.func254, Tryz.ntmps254
  go_wp2
  go_cut [4] from 14 to 22 (fun v wx => v = .int .u64 0 ∧ Hid (Below w.heap.size w wx))
  case first =>
    go_region_with (go_at_call 19; refine (HLd.out _ HB0.out).mono ?_; rintro e w1 ⟨rfl, rfl⟩)
    all_goals (go_wp2_with fail; go_meet; exact ⟨rfl, HB0⟩)
  case rest =>
    obtain ⟨rfl, HW⟩ := hcut
    have k0 : wc.cell? ⟨g, 0, none⟩ = some (.iface 53 (.pointer (some ⟨a.th 0, 0, none⟩))) := (HBB.out.below HW.out HBB.out.lt).cell 0
    have k2 : wc.cell? ⟨g, 2, none⟩ = some (.int .i64 (n : Int)) := (HBB.out.below HW.out HBB.out.lt).cell 2
    go_wp2
    go_loopw [5, 30] (fun l i wr => l = .slice none 0 0 ∧ i = .int .i64 0 ∧ Hid (Below w.heap.size w wr)) (fun _ _ _ => 0)
    case atStart => exact ⟨rfl, rfl, HW⟩
    case round =>
      obtain ⟨rfl, rfl, HR⟩ := hrel
      go_wp2
      go_ret
      exact ⟨rfl, HR.out⟩
set_option maxRecDepth 100000 in
set_option maxHeartbeats 4000000 in
theorem entries_none {a : DA} {L T : Nat} {w : World} {S : Fp} {cur : Nat → Nat} {F : Nat} (h : Dev a L T w S cur F) (g s n : Nat) (hB : Blk w g 186 (ulogCells a s n)) (hs : s < L) (hn : 2 ≤ n) (hn2 : n ≤ 4096) (h0 : cur (8 * s) = 0) :
    Calls Tryz.prog 217 #[.pointer (some ⟨g, 0, none⟩)] w fun e w' => e = .returned (.tuple #[.slice none 0 0, .int .i64 0]) ∧ Below w.heap.size w w' := by
  have HL := Lib.hid (saved_none h g s n hB hs hn hn2 h0)
  have HD := Lib.hid h
  have HBB := Lib.hid hB
  have c0 : w.cell? ⟨g, 0, none⟩ = some (memV a) := hB.cell 0
  obtain ⟨ls, exe, per, cs, lsC, hdc, hnt⟩ := h
  obtain ⟨f0, _, _, _, f4⟩ := hdc.facts (j := 0) (by omega)
  have hmE := methErr (some ⟨a.th 0, 0, none⟩)
  have hq := eqMem (some ⟨a.th 0, 0, none⟩)
  clear hdc hnt hB
  unfold memV at *
  go_enter Tryz.func217, Tryz.ntmps217
  go_wp2_with (first
    | (go_at_call 254; refine HL.out.mono ?_; rintro e w1 ⟨rfl, hb1⟩; have HW := Lib.hid hb1; have d0 : w1.cell? ⟨g, 0, none⟩ = some (.iface 53 (.pointer (some ⟨a.th 0, 0, none⟩))) := (HBB.out.below hb1 HBB.out.lt).cell 0; obtain ⟨ls1, exe1, per1, cs1, lsC1, hdc1, hnt1⟩ := HD.out.below hb1; obtain ⟨k0, _, _, _, k4⟩ := hdc1.facts (j := 0) (by omega); clear hb1 hdc1 hnt1)
    | go_in)
  go_ret2
  exact ⟨rfl, HW.out⟩
end Go.Proofs.YtklpeghhgoeeiaaGreatDoor
/- undo: load and Recover where nothing is saved. -/
namespace Go.Proofs.YtklpeghhgoeeiaaGreatDoor
open Go.RowKit
set_option maxRecDepth 100000 in
set_option maxHeartbeats 4000000 in
theorem loadU_none {a : DA} {L T : Nat} {w : World} {S : Fp} {cur : Nat → Nat} {F : Nat} (h : Dev a L T w S cur F) (g s n : Nat) (hB : Blk w g 186 (ulogCells a s n)) (hs : s < L) (hn : 2 ≤ n) (hn2 : n ≤ 4096) (h0 : cur (8 * s) = 0) :
    Calls Tryz.prog 177 #[.pointer (some ⟨g, 0, none⟩)] w fun e w' => e = .returned (.tuple #[.slice none 0 0, .bool true, .int .i64 0]) ∧ Below w.heap.size w w' := by
  have HL := Lib.hid (entries_none h g s n hB hs hn hn2 h0)
  clear h hB
  go_enter Tryz.func177, Tryz.ntmps177
  go_wp2_with (go_at_call 217; refine HL.out.mono ?_; rintro e w1 ⟨rfl, hb1⟩; have HW := Lib.hid hb1; clear hb1)
  go_loopw [7, 20] (fun l i wr => l = .slice none 0 0 ∧ i = .int .i64 0 ∧ Hid (Below w.heap.size w wr)) (fun _ _ _ => 0)
  case atStart => exact ⟨rfl, rfl, HW⟩
  case round =>
    obtain ⟨rfl, rfl, HR⟩ := hrel
    go_wp2
    go_ret3
    exact ⟨rfl, HR.out⟩
set_option maxRecDepth 100000 in
set_option maxHeartbeats 4000000 in
theorem undoRecover_none {a : DA} {L T : Nat} {w : World} {S : Fp} {cur : Nat → Nat} {F : Nat} (h : Dev a L T w S cur F) (g s n : Nat) (hB : Blk w g 186 (ulogCells a s n)) (hs : s < L) (hn : 2 ≤ n) (hn2 : n ≤ 4096) (h0 : cur (8 * s) = 0) :
    Calls Tryz.prog 116 #[.pointer (some ⟨g, 0, none⟩)] w fun e w' => e = .returned (.tuple #[.int .i64 0, .int .i64 0]) ∧ Below w.heap.size w w' := by
  have HL := Lib.hid (loadU_none h g s n hB hs hn hn2 h0)
  clear h hB
  go_enter Tryz.func116, Tryz.ntmps116
  go_wp2_with (go_at_call 177; refine HL.out.mono ?_; rintro e w1 ⟨rfl, hb1⟩; have HW := Lib.hid hb1; clear hb1)
  go_ret2
  exact ⟨rfl, HW.out⟩
end Go.Proofs.YtklpeghhgoeeiaaGreatDoor
/- chunk.header of the word of an undivided chunk of owner 1. -/
namespace Go.Proofs.YtklpeghhgoeeiaaGreatDoor
open Go.RowKit
set_option maxRecDepth 100000 in
set_option maxHeartbeats 4000000 in
theorem header_free (w : World) (ht : Tab w) :
    Calls Tryz.prog 235 #[.int .u64 (freeW 1 : Int)] w fun e w' => e = .returned (.tuple #[.agg #[.int .i64 (-1), .int .i64 (-1), .int .u16 1], .bool true]) ∧ Below w.heap.size w w' := by
  have HS := Lib.hid (fun (W : World) (hW : Below w.heap.size w W) => seal_any 3305111553 (by omega) W (ht.below hW))
  have hf : freeW 1 = sealW 3305111553 := rfl
  have hs : IntKind.u32.wrap (sealW 3305111553 : Int) = 3305111553 := by
    rw [IntKind.wrap_u32']
    unfold sealW
    omega
  rw [hf]
  generalize sealW 3305111553 = z at *
  have HB0 : Hid (∀ x, Below w.heap.size w (w.alloc x)) := fun x => (Below.refl _ _).alloc (Nat.le_refl _) x
  have b1 : bits .and .u32 50432 15 = 0 := by decide
  have b2 : bits .and .u32 3152 15 = 0 := by decide
  have b3 : IntKind.u16.wrap 3305111553 = 1 := by decide
  have q1 : ((z : Int) == (z : Int)) = true := by simp
  clear ht hf
  go_enter Tryz.func235, Tryz.ntmps235
  go_wp2_with (go_at_call 252; refine (HS.out _ (HB0.out _)).mono ?_; rintro e w1 ⟨rfl, hb1⟩; have HB1 := Lib.hid hb1; have hk := (Blk.new w 213 #[.int .i64 0, .int .i64 0, .int .u16 0]).below hb1 (Blk.new w 213 #[.int .i64 0, .int .i64 0, .int .u16 0]).lt; have hlt := hk.lt; have c0 : w1.cell? ⟨w.heap.size, 0, none⟩ = some (.int .i64 0) := hk.cell 0; have c1 : w1.cell? ⟨w.heap.size, 1, none⟩ = some (.int .i64 0) := hk.cell 1; have c2 : w1.cell? ⟨w.heap.size, 2, none⟩ = some (.int .u16 0) := hk.cell 2; have z0 : w1.frozen? ⟨w.heap.size, 0, none⟩ = false := hk.frozen 0; have z1 : w1.frozen? ⟨w.heap.size, 1, none⟩ = false := hk.frozen 1; have z2 : w1.frozen? ⟨w.heap.size, 2, none⟩ = false := hk.frozen 2; clear hb1 hk)
  have n01 : (⟨w.heap.size, 0, none⟩ : Addr) ≠ ⟨w.heap.size, 1, none⟩ := by simp
  have n02 : (⟨w.heap.size, 0, none⟩ : Addr) ≠ ⟨w.heap.size, 2, none⟩ := by simp
  have n12 : (⟨w.heap.size, 1, none⟩ : Addr) ≠ ⟨w.heap.size, 2, none⟩ := by simp
  refine bodyPost_ret (v := .tuple #[.agg #[.int .i64 (-1), .int .i64 (-1), .int .u16 1], .bool true]) (by simp [results, Tryz.results235, go_sem, c0, c1, c2, hlt]) rfl ⟨rfl, ?_⟩
  have h0 := (HB0.out (.cells #[.int .i64 0, .int .i64 0, .int .u16 0] 213)).trans (HB1.out.mono (by simp))
  have h1 := ((h0.setCell (p := ⟨w.heap.size, 0, none⟩) (Nat.le_refl _) (.int .i64 (-1))).setCell (p := ⟨w.heap.size, 1, none⟩) (Nat.le_refl _) (.int .i64 (-1))).setCell (p := ⟨w.heap.size, 2, none⟩) (Nat.le_refl _) (.int .u16 1)
  exact h1.alloc h1.size _
end Go.Proofs.YtklpeghhgoeeiaaGreatDoor
/- chunk.Look at an undivided chunk of owner 1. -/
namespace Go.Proofs.YtklpeghhgoeeiaaGreatDoor
open Go.RowKit
set_option maxRecDepth 100000 in
set_option maxHeartbeats 4000000 in
theorem look_free {a : DA} {L T : Nat} {w : World} {S : Fp} {cur : Nat → Nat} {F : Nat} (h : Dev a L T w S cur F) (ht : Tab w) (c : Nat) (hc : c + 32 ≤ L) (hv : cur (8 * c) = freeW 1) :
    Calls Tryz.prog 194 #[memV a, .int .i64 (c : Int)] w fun e w' => e = .returned (.tuple #[.agg #[.int .i64 (-1), .int .i64 (-1), .int .u16 1], .int .i64 0]) ∧ Below w.heap.size w w' := by
  have HLd := Lib.hid (load_at h (64 * c) (freeW 1) (by omega) (by omega) (by rw [show 64 * c / 8 = 8 * c by omega]; exact hv))
  have HD := Lib.hid h
  have HH := Lib.hid (fun (W : World) (hW : Below w.heap.size w W) => header_free W (ht.below hW))
  have hm := methLoad (some ⟨a.th 0, 0, none⟩)
  have hna := aheadLoad ⟨a.th 0, 0, none⟩
  have hmE := methErr (some ⟨a.th 0, 0, none⟩)
  have hmS := methSize (some ⟨a.th 0, 0, none⟩)
  have hq := eqMem (some ⟨a.th 0, 0, none⟩)
  have HB0 : Hid (Below w.heap.size w (w.alloc (.cells #[.int .i64 0, .int .i64 0, .int .u16 0] 213))) := (Below.refl _ _).alloc (Nat.le_refl _) _
  obtain ⟨ls, exe, per, cs, lsC, hdc, hnt⟩ := h.below HB0.out
  have hL := hdc.hL
  obtain ⟨f0, f2, _, _, f4⟩ := hdc.facts (j := 0) (by omega)
  have HBk := Lib.hid (Blk.new w 213 #[.int .i64 0, .int .i64 0, .int .u16 0])
  clear hdc hnt h ht
  unfold memV at *
  have e1 : decide ((c : Int) < 0) = false := decide_eq_false (by omega)
  have u1 : IntKind.u64.wrap ((L : Int) * 64) = (L : Int) * 64 := by rw [IntKind.wrap_u64]; omega
  have u3 : IntKind.u64.wrap (c : Int) = (c : Int) := by rw [IntKind.wrap_u64]; omega
  have u4 : IntKind.u64.wrap ((L : Int) - 32) = (L : Int) - 32 := by rw [IntKind.wrap_u64]; omega
  have u5 : IntKind.u64.wrap ((c : Int) * 64) = ((64 * c : Nat) : Int) := by rw [IntKind.wrap_u64]; omega
  have d1 : ((L : Int) * 64).tdiv 64 = (L : Int) := by rw [Int.mul_tdiv_cancel _ (by decide)]
  have e2 : decide ((L : Int) < 32) = false := decide_eq_false (by omega)
  have e3 : decide ((L : Int) - 32 < (c : Int)) = false := decide_eq_false (by omega)
  generalize 64 * c = z at *
  go_enter Tryz.func194, Tryz.ntmps194
  go_wp2
  generalize w.alloc (.cells #[.int .i64 0, .int .i64 0, .int .u16 0] 213) = W at *
  have HB1 : Hid (Below W.heap.size W W.drew) := (Below.refl _ _).drew
  have HB2 : Hid (Below w.heap.size w W.drew) := HB0.out.drew
  go_cut [8] from 38 to 44 (fun v wx => v = .int .u64 (freeW 1 : Int) ∧ Hid (Below W.heap.size W wx))
  case first =>
    go_region_with (first | (go_at_call 19; refine (HLd.out _ HB2.out).mono ?_; rintro e w1 ⟨rfl, rfl⟩) | go_in)
    all_goals (go_wp2_with fail; go_meet; exact ⟨rfl, HB1⟩)
  case rest =>
    obtain ⟨rfl, HW⟩ := hcut
    have HWw := Lib.hid (HB0.out.trans (HW.out.mono HB0.out.size))
    obtain ⟨ls1, exe1, per1, cs1, lsC1, hdc1, hnt1⟩ := HD.out.below HWw.out
    obtain ⟨k0, _, _, _, k4⟩ := hdc1.facts (j := 0) (by omega)
    have HHw := Lib.hid (HH.out wc HWw.out)
    have HBc := Lib.hid (HBk.out.below HW.out HBk.out.lt)
    clear hdc1 hnt1
    go_wp2_with (first
      | (go_at_call 235; refine HHw.out.mono ?_; rintro e w1 ⟨rfl, hb1⟩; have HB3 := Lib.hid (HWw.out.trans (hb1.mono HWw.out.size)); have hk := HBc.out.below hb1 HBc.out.lt; have hlt := hk.lt; have c0 : w1.cell? ⟨w.heap.size, 0, none⟩ = some (.int .i64 0) := hk.cell 0; have c1 : w1.cell? ⟨w.heap.size, 1, none⟩ = some (.int .i64 0) := hk.cell 1; have c2 : w1.cell? ⟨w.heap.size, 2, none⟩ = some (.int .u16 0) := hk.cell 2; have z0 : w1.frozen? ⟨w.heap.size, 0, none⟩ = false := hk.frozen 0; have z1 : w1.frozen? ⟨w.heap.size, 1, none⟩ = false := hk.frozen 1; have z2 : w1.frozen? ⟨w.heap.size, 2, none⟩ = false := hk.frozen 2; clear hb1 hk)
      | go_in)
    refine bodyPost_ret (v := .tuple #[.agg #[.int .i64 (-1), .int .i64 (-1), .int .u16 1], .int .i64 0]) (by simp [results, Tryz.results194, go_sem, c0, c1, c2, hlt]) rfl ⟨rfl, ?_⟩
    have h1 := ((HB3.out.setCell (p := ⟨w.heap.size, 0, none⟩) (Nat.le_refl _) (.int .i64 (-1))).setCell (p := ⟨w.heap.size, 1, none⟩) (Nat.le_refl _) (.int .i64 (-1))).setCell (p := ⟨w.heap.size, 2, none⟩) (Nat.le_refl _) (.int .u16 1)
    exact h1.alloc h1.size _
end Go.Proofs.YtklpeghhgoeeiaaGreatDoor
/- arena.Open over undivided chunks. -/
namespace Go.Proofs.YtklpeghhgoeeiaaGreatDoor
open Go.RowKit

theorem infoPlace : (Tryz.prog.info? 282).map (fun i => (i.zero, i.size, i.bytes)) = some (some (.agg #[.int .i64 0, .int .i64 0, .int .i64 0, .bool false]), 4, 32) := by kernel_rfl
/-- The places of undivided chunks. -/
def plCells (s : Nat) (k : Nat) : List Value := (List.range k).flatMap fun j => [.int .i64 ((s + 32 * j : Nat) : Int), .int .i64 (-1), .int .i64 (-1), .bool false]
theorem plCells_succ (s k : Nat) : plCells s (k + 1) = plCells s k ++ [.int .i64 ((s + 32 * k : Nat) : Int), .int .i64 (-1), .int .i64 (-1), .bool false] := by simp [plCells, List.range_succ]
/-- An arena in memory. -/
def SetIs (a : DA) (s k : Nat) (w : World) (base g : Nat) : Prop := ∃ A m c, Blk w g 290 #[memV a, .slice A m c] ∧ m = k ∧ w.ownsRow base 282 4 (.slice A m c) m (plCells s k)
def AopS (w w1 : World) (A : Option Addr) (m c : Nat) (w' : World) : Prop := w'.cell? ⟨w.heap.size, 1, none⟩ = some (.slice A m c) ∧ w'.cell? ⟨w1.heap.size, 0, none⟩ = some (.int .i64 (-1)) ∧ w'.cell? ⟨w1.heap.size, 1, none⟩ = some (.int .i64 (-1))
/-- While the places are found. -/
structure AopI (a : DA) (w wr : World) (s k : Nat) (A : Option Addr) (m c : Nat) : Prop where
  below : Below w.heap.size w wr
  set_ : Blk wr w.heap.size 290 #[memV a, .slice A m c]
  own : wr.ownsRow (w.heap.size + 1) 282 4 (.slice A m c) m (plCells s k)
  hm : m = k
set_option maxRecDepth 100000 in
set_option maxHeartbeats 4000000 in
theorem arenaOpen_any {a : DA} {L T : Nat} {w : World} {S : Fp} {cur : Nat → Nat} {F : Nat} (h : Dev a L T w S cur F) (ht : Tab w) (s n K : Nat) (hn : 32 ≤ n) (hs : s + n ≤ L) (hK : n / 32 = K) (hv : ∀ k, k < K → cur (8 * (s + 32 * k)) = freeW 1) :
    Calls Tryz.prog 179 #[memV a, .int .i64 (s : Int), .int .i64 (n : Int)] w fun e w' => e = .returned (.tuple #[.pointer (some ⟨w.heap.size, 0, none⟩), .int .i64 0]) ∧ SetIs a s K w' (w.heap.size + 1) w.heap.size ∧ Below w.heap.size w w' := by
  have HV := Lib.hid (arenaValid_any h s n hn hs)
  have HD := Lib.hid h
  have HT := Lib.hid ht
  have HVV := Lib.hid hv
  obtain ⟨i0, hi0, hz0, hz1, hz2⟩ := info_parts infoPlace
  have HI0 : Hid (AopI a w (w.alloc (.cells #[memV a, .slice none 0 0] 290)) s 0 none 0 0) := ⟨(Below.refl _ _).alloc (Nat.le_refl _) _, Blk.new _ _ _, World.ownsRow_nil _ _ _ _, rfl⟩
  obtain ⟨ls, exe, per, cs, lsC, hdc, hnt⟩ := h
  have hL := hdc.hL
  obtain ⟨f0, _, _, _, g2⟩ := hdc.facts (j := 0) (by omega)
  have hmE := methErr (some ⟨a.th 0, 0, none⟩)
  have d2 : (n : Int).tdiv 32 = (K : Int) := by rw [Int.tdiv_eq_ediv_of_nonneg (by omega)]; omega
  have d3 : (n : Int) / 32 = (K : Int) := by omega
  have hK32 : K * 32 ≤ n := by omega
  clear hdc hnt ht hK hv
  unfold memV at *
  go_enter Tryz.func179, Tryz.ntmps179
  go_wp2_with (first
    | (go_at_call 173; refine HV.out.mono ?_; rintro e w1 ⟨rfl, rfl⟩)
    | go_in)
  clear f0 g2 HV
  go_loopw [29] (fun i wr => ∃ (k : Nat) (A : Option Addr) (m c : Nat), k ≤ K ∧ i = .int .i64 k ∧ Hid (AopI a w wr s k A m c)) (fun i _ => K - (intOf i).toNat)
  case atStart => exact ⟨0, _, _, _, Nat.zero_le _, rfl, HI0⟩
  case round =>
    clear HI0
    obtain ⟨k, A, m, c, hk, rfl, H⟩ := hrel
    by_cases hlt : k < K
    · have HLK := Lib.hid (look_free (HD.out.below H.out.below) (HT.out.below H.out.below) (s + 32 * k) (by omega) (HVV.out k hlt))
      have e7 : ((s + 32 * k : Nat) : Int) = (s : Int) + (k : Int) * 32 := by omega
      rw [e7] at HLK
      unfold memV at HLK
      have hz : (s : Int) + (k : Int) * 32 ≤ 4096 := by omega
      go_wp2_with (first
        | (go_at_call 194; refine HLK.out.mono ?_; rintro e w1 ⟨rfl, hb1⟩; have HB1 := Lib.hid hb1; clear hb1)
        | go_in)
      have HSW := Lib.hid ((H.out.set_.below HB1.out H.out.set_.lt).alloc (.cells #[.int .i64 (-1), .int .i64 (-1), .int .u16 1] 213))
      have HHW := Lib.hid (Blk.new w1 213 #[.int .i64 (-1), .int .i64 (-1), .int .u16 1])
      have HBW := Lib.hid ((H.out.below.trans (HB1.out.mono H.out.below.size)).alloc (Nat.le_trans H.out.below.size HB1.out.size) (.cells #[.int .i64 (-1), .int .i64 (-1), .int .u16 1] 213))
      have HOW := Lib.hid ((own_below H.out.own HB1.out).alloc (.cells #[.int .i64 (-1), .int .i64 (-1), .int .u16 1] 213))
      generalize w1.alloc (.cells #[.int .i64 (-1), .int .i64 (-1), .int .u16 1] 213) = W at *
      have HS0 : Hid (AopS w w1 A m c W.drew) := Lib.hid ⟨HSW.out.cell 1, HHW.out.cell 0, HHW.out.cell 1⟩
      refine wp_region_script (AopS w w1 A m c) 13 [(true, 0), (true, 1), (true, 2), (true, 3), (true, 4), (true, 5), (true, 6), (true, 7), (true, 8), (true, 9), (true, 10), (false, 11), (false, 12)] (by kernel_rfl) (by kernel_rfl) HS0.out ?_
      refine wpScript_take (.pointer (some ⟨w.heap.size, 0, none⟩)) (by rfl) (by rfl) (fun w' hS => ?_) ?_
      · go_simp
      simp only [List.getElem_toArray, List.getElem_cons_zero, Act.put, List.setIfInBounds_toArray, List.set_cons_zero, List.set_cons_succ]
      refine wpScript_take (.pointer (some ⟨w.heap.size, 0, none⟩)) (by rfl) (by rfl) (fun w' hS => ?_) ?_
      · go_simp
      simp only [List.getElem_toArray, List.getElem_cons_zero, List.getElem_cons_succ, Act.put, List.setIfInBounds_toArray, List.set_cons_zero, List.set_cons_succ]
      refine wpScript_take (.pointer (some ⟨w.heap.size, 0, none⟩)) (by rfl) (by rfl) (fun w' hS => ?_) ?_
      · go_simp
      simp only [List.getElem_toArray, List.getElem_cons_zero, List.getElem_cons_succ, Act.put, List.setIfInBounds_toArray, List.set_cons_zero, List.set_cons_succ]
      refine wpScript_take (.pointer (some ⟨w.heap.size, 1, none⟩)) (by rfl) (by rfl) (fun w' hS => ?_) ?_
      · go_simp
      simp only [List.getElem_toArray, List.getElem_cons_zero, List.getElem_cons_succ, Act.put, List.setIfInBounds_toArray, List.set_cons_zero, List.set_cons_succ]
      refine wpScript_take (.slice A m c) (by rfl) (by rfl) (fun w' hS => ?_) ?_
      · have f1 := hS.1
        go_simp
      simp only [List.getElem_toArray, List.getElem_cons_zero, List.getElem_cons_succ, Act.put, List.setIfInBounds_toArray, List.set_cons_zero, List.set_cons_succ]
      refine wpScript_take (.int .i64 ((s : Int) + (k : Int) * 32)) (by rfl) (by rfl) (fun w' hS => ?_) ?_
      · go_simp
      simp only [List.getElem_toArray, List.getElem_cons_zero, List.getElem_cons_succ, Act.put, List.setIfInBounds_toArray, List.set_cons_zero, List.set_cons_succ]
      refine wpScript_take (.pointer (some ⟨w1.heap.size, 0, none⟩)) (by rfl) (by rfl) (fun w' hS => ?_) ?_
      · go_simp
      simp only [List.getElem_toArray, List.getElem_cons_zero, List.getElem_cons_succ, Act.put, List.setIfInBounds_toArray, List.set_cons_zero, List.set_cons_succ]
      refine wpScript_take (.int .i64 (-1)) (by rfl) (by rfl) (fun w' hS => ?_) ?_
      · have f1 := hS.2.1
        go_simp
      simp only [List.getElem_toArray, List.getElem_cons_zero, List.getElem_cons_succ, Act.put, List.setIfInBounds_toArray, List.set_cons_zero, List.set_cons_succ]
      refine wpScript_take (.pointer (some ⟨w1.heap.size, 1, none⟩)) (by rfl) (by rfl) (fun w' hS => ?_) ?_
      · go_simp
      simp only [List.getElem_toArray, List.getElem_cons_zero, List.getElem_cons_succ, Act.put, List.setIfInBounds_toArray, List.set_cons_zero, List.set_cons_succ]
      refine wpScript_take (.int .i64 (-1)) (by rfl) (by rfl) (fun w' hS => ?_) ?_
      · have f1 := hS.2.2
        go_simp
      simp only [List.getElem_toArray, List.getElem_cons_zero, List.getElem_cons_succ, Act.put, List.setIfInBounds_toArray, List.set_cons_zero, List.set_cons_succ]
      refine wpScript_take (.agg #[.int .i64 ((s : Int) + (k : Int) * 32), .int .i64 (-1), .int .i64 (-1), .bool false]) (by rfl) (by rfl) (fun w' hS => ?_) ?_
      · go_simp
      simp only [List.getElem_toArray, List.getElem_cons_zero, List.getElem_cons_succ, Act.put, List.setIfInBounds_toArray, List.set_cons_zero, List.set_cons_succ]
      have hmk : m ≤ 128 := by have := H.out.hm; omega
      have HLE := Lib.hid HBW.out.size
      have HLT := Lib.hid HSW.out.lt
      refine wpScript_do (by rfl) ?_
      go_wp2
      have HSA := Lib.hid ((HSW.out.alloc (.cells #[.int .i64 ((s : Int) + (k : Int) * 32), .int .i64 (-1), .int .i64 (-1), .bool false] 282)).drew)
      have HHA := Lib.hid ((HHW.out.alloc (.cells #[.int .i64 ((s : Int) + (k : Int) * 32), .int .i64 (-1), .int .i64 (-1), .bool false] 282)).drew)
      have HOA := Lib.hid ((HOW.out.alloc (.cells #[.int .i64 ((s : Int) + (k : Int) * 32), .int .i64 (-1), .int .i64 (-1), .bool false] 282)).drew)
      have HRA : Hid (Reads (W.alloc (.cells #[.int .i64 ((s : Int) + (k : Int) * 32), .int .i64 (-1), .int .i64 (-1), .bool false] 282)).drew (W.heap.size + 1) 4 (some ⟨W.heap.size, 0, none⟩) 1 [.int .i64 ((s : Int) + (k : Int) * 32), .int .i64 (-1), .int .i64 (-1), .bool false]) := Lib.hid (row_reads_at W W.heap.size rfl [.int .i64 ((s : Int) + (k : Int) * 32), .int .i64 (-1), .int .i64 (-1), .bool false] 1 4 282 _ rfl rfl)
      have HBA := Lib.hid ((HBW.out.alloc HBW.out.size (.cells #[.int .i64 ((s : Int) + (k : Int) * 32), .int .i64 (-1), .int .i64 (-1), .bool false] 282)).drew)
      have HLA : Hid (w.heap.size + 1 ≤ (W.alloc (.cells #[.int .i64 ((s : Int) + (k : Int) * 32), .int .i64 (-1), .int .i64 (-1), .bool false] 282)).drew.heap.size) := Lib.hid (by have := HLT.out; simp; omega)
      generalize (W.alloc (.cells #[.int .i64 ((s : Int) + (k : Int) * 32), .int .i64 (-1), .int .i64 (-1), .bool false] 282)).drew = WA at *
      clear HSW HHW HOW HBW HS0 HLE HLT
      refine ⟨⟨HSA.out.cell 1, HHA.out.cell 0, HHA.out.cell 1⟩, ?_⟩
      refine wpScript_do (by rfl) ?_
      refine wpList_app _ (.tmp 49) (.tmp 56) 288 rfl rfl (w.heap.size + 1) 282 i0 _ 4 32 Tryz.underlying288 hi0 hz0 hz1 hz2 rfl (by omega) (.slice A m c) m (plCells s k) rfl HOA.out (W.heap.size + 1) (some ⟨W.heap.size, 0, none⟩) 1 1 [.int .i64 ((s : Int) + (k : Int) * 32), .int .i64 (-1), .int .i64 (-1), .bool false] rfl HRA.out (by intro u hu; simp at hu; rcases hu with rfl | rfl | rfl <;> rfl) (by unfold maxLen; omega) (by omega) HLA.out ?_
      intro A3 n3 c3 w8 hn3 ho3 hg3 hb3
      have HN3 := Lib.hid hn3
      have HO3 := Lib.hid ho3
      have HS8 := Lib.hid ((HSA.out.grown hg3 (fun e => own_blk_ne HOA.out HSA.out (by decide) e.symm)) : Blk w8 w.heap.size 290 #[memV a, .slice A m c])
      have HH8 := Lib.hid (HHA.out.grown hg3 (fun e => own_blk_ne HOA.out HHA.out (by decide) e.symm))
      have HB8 := Lib.hid ((HBA.out.trans (hb3.mono (Nat.le_succ _))) : Below w.heap.size w w8)
      have z1 : w8.frozen? ⟨w.heap.size, 1, none⟩ = false := HS8.out.frozen 1
      have c1 : w8.cell? ⟨w.heap.size, 1, none⟩ = some (.slice A m c) := HS8.out.cell 1
      clear hn3 ho3 hg3 hb3
      refine ⟨⟨HS8.out.cell 1, HH8.out.cell 0, HH8.out.cell 1⟩, ?_⟩
      show wpList _ _ _ _ _ _
      simp only [List.drop_succ_cons, List.drop_zero]
      go_wp2
      refine NoPanic.normal ?_
      go_wp2
      have HI1 : Hid (AopI a w (w8.setCell ⟨w.heap.size, 1, none⟩ (.slice A3 n3 c3)) s (k + 1) A3 n3 c3) := by
        refine ⟨HB8.out.setCell (Nat.le_refl _) _, HS8.out.set_ 1 _, ?_, ?_⟩
        · rw [plCells_succ, e7]
          exact ownsRow_setCell_other HO3.out (a := ⟨w.heap.size, 1, none⟩) (own_blk_ne HO3.out HS8.out (by decide)) _
        · have := HN3.out; have := H.out.hm; omega
      go_roundw
      case rel =>
        repeat apply Exists.intro
        refine ⟨?_, rfl⟩
        exact ⟨k + 1, _, _, _, by omega, by go_num, HI1⟩
      case measure => simp [intOf]; omega
    · obtain rfl : k = K := by omega
      go_wp2
      go_ret2
      exact ⟨rfl, ⟨A, m, c, H.out.set_, H.out.hm, H.out.own⟩, H.out.below⟩
end Go.Proofs.YtklpeghhgoeeiaaGreatDoor
