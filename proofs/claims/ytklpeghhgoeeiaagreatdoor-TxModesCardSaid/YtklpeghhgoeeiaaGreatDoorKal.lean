/- The walks and laws that the claim leans on, part 12: each part says ahead of its lines what it holds. -/
import Derived.Test.YtklpeghhgoeeiaaGreatDoorKak
/- undo: entryOff, Saved, entries, load over a log with entries. -/
namespace Go.Proofs.YtklpeghhgoeeiaaGreatDoor
open Go.RowKit
/-- To stop a walk. -/
def Stop (p : Prop) : Prop := p
theorem stop {p : Prop} (h : Stop p) : p := h
/-- The words of a log at line s. -/
structure LogU (cur : Nat → Nat) (s : Nat) (ws : List (Nat × Nat)) : Prop where
  count : cur (8 * s) = ws.length
  at_ : ∀ i (h : i < ws.length), cur (8 * s + 8 + 2 * i) = (ws[i]).1 ∧ cur (8 * s + 8 + 2 * i + 1) = (ws[i]).2
theorem LogU.none {cur : Nat → Nat} {s : Nat} (h : cur (8 * s) = 0) : LogU cur s [] := ⟨h, fun i h => by simp at h⟩
set_option maxRecDepth 100000 in
set_option maxHeartbeats 4000000 in
theorem entryOff_any (v : Value) (g z k : Nat) (nv : Value) (w : World) (hB : Blk w g 186 #[v, .int .u64 (z : Int), nv]) (hz : z ≤ 1000000000) (hk : k ≤ 1000000) :
    Calls Tryz.prog 232 #[.pointer (some ⟨g, 0, none⟩), .int .i64 (k : Int)] w fun e w' => e = .returned (.int .u64 ((z + 64 + 16 * k : Nat) : Int)) ∧ w = w' := by
  have f1 : w.cell? ⟨g, 1, none⟩ = some (.int .u64 (z : Int)) := hB.cell 1
  have u1 : IntKind.u64.wrap ((z : Int) + 64) = ((z + 64 : Nat) : Int) := by rw [IntKind.wrap_u64]; omega
  have u2 : IntKind.u64.wrap (k : Int) = (k : Int) := by rw [IntKind.wrap_u64]; omega
  have u3 : IntKind.u64.wrap ((k : Int) * 16) = ((16 * k : Nat) : Int) := by rw [IntKind.wrap_u64]; omega
  have u4 : IntKind.u64.wrap (((z + 64 : Nat) : Int) + ((16 * k : Nat) : Int)) = ((z + 64 + 16 * k : Nat) : Int) := by rw [IntKind.wrap_u64]; omega
  generalize z + 64 + 16 * k = y at *
  generalize z + 64 = x at *
  generalize 16 * k = q at *
  clear hB
  go_enter Tryz.func232, Tryz.ntmps232
  go_wp2
  go_ret
  exact ⟨rfl, rfl⟩
/-- Writes of the call's own. -/
def RetWr (w : World) (ws : List (Nat × Nat)) (e : Ending) (w' : World) : Prop := ∃ A m c, e = .returned (.slice A m c) ∧ m = ws.length ∧ w'.ownsRow w.heap.size 130 2 (.slice A m c) m (wrCells ws) ∧ Below w.heap.size w w'
theorem wrCells_snoc (ws : List (Nat × Nat)) (e : Nat × Nat) : wrCells (ws ++ [e]) = wrCells ws ++ [.int .u64 (e.1 : Int), .int .u64 (e.2 : Int)] := by simp [wrCells]
theorem takeS {α : Type} (l : List α) (k : Nat) (h : k < l.length) : l.take (k + 1) = l.take k ++ [l[k]] := by simp
set_option maxRecDepth 100000 in
set_option maxHeartbeats 4000000 in
theorem saved_any {a : DA} {L T : Nat} {w : World} {S : Fp} {cur : Nat → Nat} {F : Nat} (h : Dev a L T w S cur F) (g s n : Nat) (hB : Blk w g 186 (ulogCells a s n)) (hs : s + n ≤ L) (hn : 2 ≤ n) (ws : List (Nat × Nat)) (hl : LogU cur s ws) (hc : ws.length ≤ 4 * (n - 1)) :
    Calls Tryz.prog 254 #[.pointer (some ⟨g, 0, none⟩)] w (RetWr w ws) := by
  obtain ⟨i0, hi0, hz0, hz1, hz2⟩ := info_parts infoWrite
  have hL : L ≤ 4096 := by obtain ⟨ls, exe, per, cs, lsC, hdc, hnt⟩ := h; exact hdc.hL
  have HLd := Lib.hid (load_at h (64 * s) ws.length (by omega) (by omega) (by rw [show 64 * s / 8 = 8 * s by omega]; exact hl.count))
  have HL1 : Hid (∀ k (hk : k < ws.length) W, Below w.heap.size w W → Calls Tryz.prog 19 #[.pointer (some ⟨a.th 0, 0, none⟩), .int .u64 ((64 * s + 64 + 16 * k : Nat) : Int)] W fun e w' => e = .returned (.int .u64 ((ws[k]).1 : Int)) ∧ W = w') := fun k hk W hW =>
    load_at h (64 * s + 64 + 16 * k) (ws[k]).1 (by omega) (by omega) (by rw [show (64 * s + 64 + 16 * k) / 8 = 8 * s + 8 + 2 * k by omega]; exact (hl.at_ k hk).1) W hW
  have HL2 : Hid (∀ k (hk : k < ws.length) W, Below w.heap.size w W → Calls Tryz.prog 19 #[.pointer (some ⟨a.th 0, 0, none⟩), .int .u64 ((64 * s + 64 + 16 * k + 8 : Nat) : Int)] W fun e w' => e = .returned (.int .u64 ((ws[k]).2 : Int)) ∧ W = w') := fun k hk W hW =>
    load_at h (64 * s + 64 + 16 * k + 8) (ws[k]).2 (by omega) (by omega) (by rw [show (64 * s + 64 + 16 * k + 8) / 8 = 8 * s + 8 + 2 * k + 1 by omega]; exact (hl.at_ k hk).2) W hW
  have hm := methLoad (some ⟨a.th 0, 0, none⟩)
  have hna := aheadLoad ⟨a.th 0, 0, none⟩
  have hq := eqMem (some ⟨a.th 0, 0, none⟩)
  have HBB := Lib.hid hB
  have f0 : w.cell? ⟨g, 0, none⟩ = some (memV a) := hB.cell 0
  have f1 : w.cell? ⟨g, 1, none⟩ = some (.int .u64 ((64 * s : Nat) : Int)) := hB.cell 1
  have HB0 : Hid (Below w.heap.size w w.drew) := (Below.refl _ _).drew
  have u1 : IntKind.u64.wrap (4 * ((n : Int) - 1)) = 4 * ((n : Int) - 1) := by rw [IntKind.wrap_u64]; omega
  have e1 : decide (4 * ((n : Int) - 1) < (ws.length : Int)) = false := decide_eq_false (by omega)
  have hg0 : (2 : Int) ≤ (n : Int) := by omega
  have hg1 : (n : Int) ≤ 4096 := by omega
  have hN : ws.length ≤ 16384 := by omega
  have HEN : Hid (∀ k W, k < ws.length → Below w.heap.size w W → Calls Tryz.prog 232 #[.pointer (some ⟨g, 0, none⟩), .int .i64 (k : Int)] W fun e w' => e = .returned (.int .u64 ((64 * s + 64 + 16 * k : Nat) : Int)) ∧ W = w') := fun k W hk hW =>
    entryOff_any _ g (64 * s) k _ W (HBB.out.below hW HBB.out.lt) (by omega) (by omega)
  have hzz : 64 * s ≤ 1000000 := by omega
  have hNN : ws.length ≤ 16384 := by omega
  unfold memV at *
  generalize 64 * s = z at *
  clear hB h hl hc hs hn
  go_enter Tryz.func254, Tryz.ntmps254
  go_wp2
  go_cut [4] from 14 to 22 (fun v wx => v = .int .u64 (ws.length : Int) ∧ Hid (Below w.heap.size w wx))
  case first =>
    go_region_with (go_at_call 19; refine (HLd.out _ HB0.out).mono ?_; rintro e w1 ⟨rfl, rfl⟩)
    all_goals (go_wp2_with fail; go_meet; exact ⟨rfl, HB0⟩)
  case rest =>
    obtain ⟨rfl, HW⟩ := hcut
    have k0 : wc.cell? ⟨g, 0, none⟩ = some (.iface 53 (.pointer (some ⟨a.th 0, 0, none⟩))) := (HBB.out.below HW.out HBB.out.lt).cell 0
    have k2 : wc.cell? ⟨g, 2, none⟩ = some (.int .i64 (n : Int)) := (HBB.out.below HW.out HBB.out.lt).cell 2
    have HO0 : Hid (wc.ownsRow w.heap.size 130 2 (.slice none 0 0) 0 (wrCells (ws.take 0))) := World.ownsRow_nil _ _ _ _
    go_wp2
    go_loopw [5, 30] (fun l i wr => ∃ (k : Nat) (A : Option Addr) (m c : Nat), k ≤ ws.length ∧ i = .int .i64 k ∧ l = .slice A m c ∧ m ≤ k ∧ k ≤ m ∧ Hid (wr.ownsRow w.heap.size 130 2 (.slice A m c) m (wrCells (ws.take k))) ∧ Hid (Below w.heap.size w wr)) (fun _ i _ => ws.length - (intOf i).toNat)
    case atStart => exact ⟨0, _, _, _, Nat.zero_le _, rfl, rfl, Nat.le_refl _, Nat.le_refl _, HO0, HW⟩
    case round =>
      clear HO0 HW
      obtain ⟨k, A, m, c, hk, rfl, rfl, hm1, hm2, HO, H⟩ := hrel
      by_cases hlt : k < ws.length
      · have hz5 : (k : Int) < (ws.length : Int) := by omega
        have hkl : k < ws.length := by omega
        have HE := Lib.hid (HEN.out k wr hlt H.out)
        have HA := Lib.hid (HL1.out k hlt wr H.out)
        have HB := Lib.hid (HL2.out k hlt wr H.out)
        have HTS := Lib.hid (takeS ws k hkl)
        have u2 : IntKind.u64.wrap (((z + 64 + 16 * k : Nat) : Int) + 8) = ((z + 64 + 16 * k + 8 : Nat) : Int) := by rw [IntKind.wrap_u64]; omega
        generalize ws[k] = e at *
        generalize z + 64 + 16 * k + 8 = y2 at *
        generalize z + 64 + 16 * k = y at *
        have HLE := Lib.hid H.out.size
        go_wp2_with fail
        refine HE.out.mono ?_
        rintro e1 w1 ⟨rfl, rfl⟩
        go_wp2_with fail
        refine HA.out.mono ?_
        rintro e1 w1 ⟨rfl, rfl⟩
        go_wp2_with fail
        refine HB.out.mono ?_
        rintro e1 w1 ⟨rfl, rfl⟩
        go_wp2_with (at_builtin; refine stop ?_)
        unfold Stop
        refine wpList_app _ (.tmp 36) (.tmp 45) 120 rfl rfl w.heap.size 130 i0 _ 2 16 Tryz.underlying120 hi0 hz0 hz1 hz2 rfl (by omega) (.slice A m c) m (wrCells (ws.take k)) rfl (HO.out.alloc _) (wr.heap.size + 1) (some ⟨wr.heap.size, 0, none⟩) 1 1 [.int .u64 (e.1 : Int), .int .u64 (e.2 : Int)] rfl (row_reads_at _ _ rfl _ 1 2 130 _ rfl rfl) (u64s_one _ _) (by unfold maxLen; omega) (by omega) (by have := HLE.out; simp; omega) ?_
        intro A3 n3 c3 w8 hn3 ho3 hg3 hb3
        have HO4 : Hid (w8.ownsRow w.heap.size 130 2 (.slice A3 n3 c3) n3 (wrCells (ws.take (k + 1)))) := Lib.hid (by rw [HTS.out, wrCells_snoc]; exact ho3)
        have HB3 := Lib.hid ((H.out.alloc H.out.size _).trans hb3)
        have b1 : n3 ≤ k + 1 := by omega
        have b2 : k + 1 ≤ n3 := by omega
        clear hn3 ho3 hg3 hb3
        go_wp2
        go_roundw
        case rel =>
          first
            | exact ⟨k + 1, _, _, _, by omega, by go_num, rfl, b1, b2, HO4, HB3⟩
            | (repeat apply Exists.intro
               refine ⟨?_, rfl⟩
               exact ⟨k + 1, _, _, _, by omega, by go_num, rfl, b1, b2, HO4, HB3⟩)
        case measure => simp [intOf]; omega
      · have hkN : k = ws.length := by omega
        go_wp2
        go_ret
        refine ⟨_, _, _, rfl, by omega, ?_, H.out⟩
        have h := HO.out
        rw [List.take_of_length_le (by omega)] at h
        exact h
/-- What entries hands back. -/
def RetEnt (w : World) (ws : List (Nat × Nat)) (e : Ending) (w' : World) : Prop := ∃ A m c, e = .returned (.tuple #[.slice A m c, .int .i64 0]) ∧ m = ws.length ∧ w'.ownsRow w.heap.size 130 2 (.slice A m c) m (wrCells ws) ∧ Below w.heap.size w w'
set_option maxRecDepth 100000 in
set_option maxHeartbeats 4000000 in
theorem entries_any {a : DA} {L T : Nat} {w : World} {S : Fp} {cur : Nat → Nat} {F : Nat} (h : Dev a L T w S cur F) (g s n : Nat) (hB : Blk w g 186 (ulogCells a s n)) (hs : s + n ≤ L) (hn : 2 ≤ n) (ws : List (Nat × Nat)) (hl : LogU cur s ws) (hc : ws.length ≤ 4 * (n - 1)) :
    Calls Tryz.prog 217 #[.pointer (some ⟨g, 0, none⟩)] w (RetEnt w ws) := by
  have HL := Lib.hid (saved_any h g s n hB hs hn ws hl hc)
  have HD := Lib.hid h
  have HBB := Lib.hid hB
  have c0 : w.cell? ⟨g, 0, none⟩ = some (memV a) := hB.cell 0
  obtain ⟨ls, exe, per, cs, lsC, hdc, hnt⟩ := h
  obtain ⟨f0, _, _, _, f4⟩ := hdc.facts (j := 0) (by omega)
  have hmE := methErr (some ⟨a.th 0, 0, none⟩)
  have hq := eqMem (some ⟨a.th 0, 0, none⟩)
  clear hdc hnt hB
  unfold memV at *
  go_enter Tryz.func217, Tryz.ntmps217
  go_wp2_with (first
    | (go_at_call 254; refine HL.out.mono ?_; rintro e w1 ⟨A, m, c, rfl, hm, ho, hb1⟩; have HM := Lib.hid hm; have HO := Lib.hid ho; have HW := Lib.hid hb1; have d0 : w1.cell? ⟨g, 0, none⟩ = some (.iface 53 (.pointer (some ⟨a.th 0, 0, none⟩))) := (HBB.out.below hb1 HBB.out.lt).cell 0; obtain ⟨ls1, exe1, per1, cs1, lsC1, hdc1, hnt1⟩ := HD.out.below hb1; obtain ⟨k0, _, _, _, k4⟩ := hdc1.facts (j := 0) (by omega); clear hb1 hdc1 hnt1 hm ho)
    | go_in)
  go_ret2
  exact ⟨_, _, _, rfl, HM.out, HO.out, HW.out⟩
end Go.Proofs.YtklpeghhgoeeiaaGreatDoor
/- undo: allowed, setCount, load over a log with entries. -/
namespace Go.Proofs.YtklpeghhgoeeiaaGreatDoor
open Go.RowKit
/-- An offset that may be saved. -/
structure OffOk (L s n o : Nat) : Prop where
  al : o % 8 = 0
  lt : o < 64 * L
  out : o < 64 * s ∨ 64 * s + 64 * n ≤ o
set_option maxRecDepth 100000 in
set_option maxHeartbeats 4000000 in
theorem allowed_any {a : DA} {L T : Nat} {w : World} {S : Fp} {cur : Nat → Nat} {F : Nat} (h : Dev a L T w S cur F) (g s n : Nat) (hB : Blk w g 186 (ulogCells a s n)) (hs : s + n ≤ L) (o : Nat) (ho : OffOk L s n o) :
    Calls Tryz.prog 218 #[.pointer (some ⟨g, 0, none⟩), .int .u64 (o : Int)] w fun e w' => e = .returned (.bool true) ∧ Below w.heap.size w w' := by
  have c0 : w.cell? ⟨g, 0, none⟩ = some (memV a) := hB.cell 0
  have c1 : w.cell? ⟨g, 1, none⟩ = some (.int .u64 ((64 * s : Nat) : Int)) := hB.cell 1
  have c2 : w.cell? ⟨g, 2, none⟩ = some (.int .i64 (n : Int)) := hB.cell 2
  have hmS := methSize (some ⟨a.th 0, 0, none⟩)
  obtain ⟨ls, exe, per, cs, lsC, hdc, hnt⟩ := h
  have hL := hdc.hL
  obtain ⟨f0, f2, _, _, f4⟩ := hdc.facts (j := 0) (by omega)
  obtain ⟨o1, o2, o3⟩ := ho
  have HB0 : Hid (Below w.heap.size w w.drew) := (Below.refl _ _).drew
  have e1 : ((o : Int) % 8 == 0) = true := by rw [beq_iff_eq]; omega
  have e1' : (o : Int) % 8 = 0 := by omega
  have u1 : IntKind.u64.wrap ((L : Int) * 64) = (L : Int) * 64 := by rw [IntKind.wrap_u64]; omega
  have e2 : decide ((L : Int) * 64 ≤ (o : Int)) = false := decide_eq_false (by omega)
  have u2 : IntKind.u64.wrap (n : Int) = (n : Int) := by rw [IntKind.wrap_u64]; omega
  have u3 : IntKind.u64.wrap ((n : Int) * 64) = (n : Int) * 64 := by rw [IntKind.wrap_u64]; omega
  clear hdc hnt hB
  unfold memV at *
  by_cases hlt : o < 64 * s
  · have e3 : decide ((o : Int) < ((64 * s : Nat) : Int)) = true := decide_eq_true (by omega)
    have e3' : decide (o < 64 * s) = true := decide_eq_true hlt
    generalize 64 * s = z at *
    go_enter Tryz.func218, Tryz.ntmps218
    go_wp2
    go_region
    go_wp2
    go_ret
    exact ⟨rfl, HB0.out⟩
  · have e3 : decide ((o : Int) < ((64 * s : Nat) : Int)) = false := decide_eq_false (by omega)
    have e3' : decide (o < 64 * s) = false := decide_eq_false hlt
    have u4 : IntKind.u64.wrap ((o : Int) - ((64 * s : Nat) : Int)) = (o : Int) - ((64 * s : Nat) : Int) := by rw [IntKind.wrap_u64]; omega
    have e4 : decide ((n : Int) * 64 ≤ (o : Int) - ((64 * s : Nat) : Int)) = true := decide_eq_true (by omega)
    generalize 64 * s = z at *
    go_enter Tryz.func218, Tryz.ntmps218
    go_wp2
    go_region
    go_wp2
    go_ret
    exact ⟨rfl, HB0.out⟩
set_option maxRecDepth 100000 in
set_option maxHeartbeats 4000000 in
theorem setCount_any (a : DA) (s n g c : Nat) (w : World) (hB : Blk w g 186 (ulogCells a s n)) (hs : 64 * s < 18446744073709551616) (hc : c ≤ 1000000) :
    Calls Tryz.prog 178 #[.pointer (some ⟨g, 0, none⟩), .int .i64 (c : Int)] w (RetProg w (IsStores [(64 * s, c)])) := by
  have f1 : w.cell? ⟨g, 1, none⟩ = some (.int .u64 ((64 * s : Nat) : Int)) := hB.cell 1
  have HS := Lib.hid (stores_small _ 1 1 _ _ (one_reads w (64 * s) c) (by omega) (by omega) (fun e he => by simp at he; subst he; exact hs))
  have u1 : IntKind.u64.wrap (c : Int) = (c : Int) := by rw [IntKind.wrap_u64]; omega
  generalize 64 * s = o at *
  clear hB
  go_enter Tryz.func178, Tryz.ntmps178
  go_wp2_with (go_at_call 66; refine HS.out.mono ?_; intro e w1 h1; have h2 := RetProg.back ((Below.refl _ _).alloc (Nat.le_refl _) _) h1; obtain ⟨A1, m1, c1, p1, rfl, hp1, ho1, hb1⟩ := h2; have HP1 := Lib.hid hp1; have HO1 := Lib.hid ho1; have HB1 := Lib.hid hb1; clear h1 hp1 ho1 hb1)
  go_ret
  exact ⟨_, _, _, _, rfl, HP1.out, HO1.out, HB1.out⟩
/-- What load hands back. -/
def RetLoad (w : World) (ws : List (Nat × Nat)) (e : Ending) (w' : World) : Prop := ∃ A m c, e = .returned (.tuple #[.slice A m c, .bool ws.isEmpty, .int .i64 0]) ∧ m = ws.length ∧ w'.ownsRow w.heap.size 130 2 (.slice A m c) m (wrCells ws) ∧ Below w.heap.size w w'
set_option maxRecDepth 100000 in
set_option maxHeartbeats 4000000 in
theorem loadU_any {a : DA} {L T : Nat} {w : World} {S : Fp} {cur : Nat → Nat} {F : Nat} (h : Dev a L T w S cur F) (g s n : Nat) (hB : Blk w g 186 (ulogCells a s n)) (hs : s + n ≤ L) (hn : 2 ≤ n) (ws : List (Nat × Nat)) (hl : LogU cur s ws) (hc : ws.length ≤ 4 * (n - 1)) (hw : ∀ e ∈ ws, OffOk L s n e.1) :
    Calls Tryz.prog 177 #[.pointer (some ⟨g, 0, none⟩)] w (RetLoad w ws) := by
  obtain ⟨i0, hi0, hz0, hz1, hz2⟩ := info_parts infoWrite
  have hL : L ≤ 4096 := by obtain ⟨ls, exe, per, cs, lsC, hdc, hnt⟩ := h; exact hdc.hL
  have HE := Lib.hid (entries_any h g s n hB hs hn ws hl hc)
  have HAl : Hid (∀ k (hk : k < ws.length) W, Below w.heap.size w W → Calls Tryz.prog 218 #[.pointer (some ⟨g, 0, none⟩), .int .u64 ((ws[k]).1 : Int)] W fun e w' => e = .returned (.bool true) ∧ Below W.heap.size W w') := fun k hk W hW =>
    allowed_any (h.below hW) g s n (hB.below hW hB.lt) hs _ (hw _ (List.getElem_mem hk))
  have hN : ws.length ≤ 16384 := by omega
  clear h hB hl hc hs hn hw
  go_enter Tryz.func177, Tryz.ntmps177
  go_wp2_with fail
  refine HE.out.mono ?_
  rintro e w1 ⟨A, m, c, rfl, hm, ho, hb1⟩
  have HR := Lib.hid (Reads.of_own ho)
  have HB1 := Lib.hid hb1
  have hm1 : m ≤ ws.length := by omega
  have hm2 : ws.length ≤ m := by omega
  have HO0 : Hid (w1.ownsRow w1.heap.size 130 2 (.slice none 0 0) 0 (wrCells (ws.take 0))) := World.ownsRow_nil _ _ _ _
  have HBB : Hid (Below w1.heap.size w1 w1) := Below.refl _ _
  clear hm ho hb1 HE
  go_wp2
  go_loopw [7, 20] (fun l i wr => ∃ (k : Nat) (A2 : Option Addr) (m2 c2 : Nat), k ≤ m ∧ i = .int .i64 k ∧ l = .slice A2 m2 c2 ∧ m2 ≤ k ∧ k ≤ m2 ∧ Hid (wr.ownsRow w1.heap.size 130 2 (.slice A2 m2 c2) m2 (wrCells (ws.take k))) ∧ Hid (Below w1.heap.size w1 wr)) (fun _ i _ => m - (intOf i).toNat)
  case atStart => exact ⟨0, _, _, _, Nat.zero_le _, rfl, rfl, Nat.le_refl _, Nat.le_refl _, HO0, HBB⟩
  case round =>
    clear HO0 HBB
    obtain ⟨k, A2, m2, c2, hk, rfl, rfl, hq1, hq2, HO, H⟩ := hrel
    by_cases hlt : k < m
    · have hkl : k < ws.length := by omega
      obtain ⟨_, b, off, hA, hbB, f0, f1⟩ := wr_facts (HR.out.below H.out) hlt
      subst hA
      have hz5 : (0 : Int) ≤ (k : Int) := by omega
      have hz6 : (k : Int) < (m : Int) := by omega
      have hb0 : Below w.heap.size w (wr.alloc (.cells #[.int .u64 ((ws[k]).1 : Int), .int .u64 ((ws[k]).2 : Int)] 130)) := (HB1.out.trans (H.out.mono HB1.out.size)).alloc (Nat.le_trans HB1.out.size H.out.size) _
      have HA := Lib.hid (HAl.out k hkl _ hb0)
      have HTS := Lib.hid (takeS ws k hkl)
      have HLE := Lib.hid H.out.size
      have HX : Hid (∀ o, Below w1.heap.size w1 (wr.alloc o)) := fun o => H.out.alloc H.out.size o
      have HOX : Hid (∀ o, (wr.alloc o).ownsRow w1.heap.size 130 2 (.slice A2 m2 c2) m2 (wrCells (ws.take k))) := fun o => HO.out.alloc o
      have HBX := Lib.hid (Blk.new wr 130 #[.int .u64 ((ws[k]).1 : Int), .int .u64 ((ws[k]).2 : Int)])
      clear hb0
      generalize ws[k] = e at *
      go_wp2_with fail
      refine HA.out.mono ?_
      rintro e1 w2 ⟨rfl, hb2⟩
      have HB2 := Lib.hid ((HX.out _).trans (hb2.mono (HX.out _).size))
      have HO2 := Lib.hid (own_below (HOX.out _) hb2)
      have hk2 := HBX.out.below hb2 HBX.out.lt
      have d0 : w2.cell? ⟨wr.heap.size, 0, none⟩ = some (.int .u64 (e.1 : Int)) := hk2.cell 0
      have d1 : w2.cell? ⟨wr.heap.size, 1, none⟩ = some (.int .u64 (e.2 : Int)) := hk2.cell 1
      clear hb2 hk2 HA HX HOX HBX H HO
      go_wp2_with (at_builtin; refine stop ?_)
      unfold Stop
      refine wpList_app _ (.tmp 28) (.tmp 30) 120 rfl rfl w1.heap.size 130 i0 _ 2 16 Tryz.underlying120 hi0 hz0 hz1 hz2 rfl (by omega) (.slice A2 m2 c2) m2 (wrCells (ws.take k)) rfl (HO2.out.alloc _) (w2.heap.size + 1) (some ⟨w2.heap.size, 0, none⟩) 1 1 [.int .u64 (e.1 : Int), .int .u64 (e.2 : Int)] rfl (row_reads_at _ _ rfl _ 1 2 130 _ rfl rfl) (u64s_one _ _) (by unfold maxLen; omega) (by omega) (by have := HB2.out.size; simp; omega) ?_
      intro A3 n3 c3 w8 hn3 ho3 hg3 hb3
      have HO4 : Hid (w8.ownsRow w1.heap.size 130 2 (.slice A3 n3 c3) n3 (wrCells (ws.take (k + 1)))) := Lib.hid (by rw [HTS.out, wrCells_snoc]; exact ho3)
      have HB3 := Lib.hid ((HB2.out.alloc HB2.out.size _).trans hb3)
      have b1 : n3 ≤ k + 1 := by omega
      have b2 : k + 1 ≤ n3 := by omega
      clear hn3 ho3 hg3 hb3
      go_wp2
      go_roundw
      case rel =>
        first
          | exact ⟨k + 1, _, _, _, by omega, by go_num, rfl, b1, b2, HO4, HB3⟩
          | (repeat apply Exists.intro
             refine ⟨?_, rfl⟩
             exact ⟨k + 1, _, _, _, by omega, by go_num, rfl, b1, b2, HO4, HB3⟩)
      case measure => simp [intOf]; omega
    · have hkm : k = m := by omega
      subst hkm
      have hdec : ((k : Int) == 0) = ws.isEmpty := by
        cases ws with
        | nil => have : k = 0 := by simp at hm1; omega
                 subst this; rfl
        | cons x l => have : k ≠ 0 := by simp at hm2; omega
                      simp; omega
      go_wp2
      go_ret3
      refine ⟨A2, m2, c2, rfl, by omega, ?_, HB1.out.trans (H.out.mono HB1.out.size)⟩
      have h := own_le HO.out HB1.out.size
      rw [List.take_of_length_le (by omega)] at h
      exact h
end Go.Proofs.YtklpeghhgoeeiaaGreatDoor
/- Sets of words: map[uint64]bool. -/
namespace Go.Proofs.YtklpeghhgoeeiaaGreatDoor
open Go.RowKit Go.Maps
/-- The map's datum says what lies in the set. -/
def SetD (D : DataW Unit) (l : List Nat) : Prop := ∀ x, D.atKey (kU x) (.lit (.bool false)) = .lit (.bool (decide (x ∈ l)))
theorem SetD.nil : SetD (.map []) [] := fun x => by simp [DataW.atKey]
theorem kU_ne {x y : Nat} (h : x ≠ y) : kU x ≠ kU y := fun e => h (kU_inj e)
theorem kU_key (x : Nat) : WideAt.IsKeyLit (kU x) := by simp [WideAt.IsKeyLit]
theorem SetD.put {D : DataW Unit} {l : List Nat} (h : SetD D l) (hm : IsMap D) (o : Nat) : SetD (D.put (kU o) (.lit (.bool true))) (o :: l) := fun x => by
  by_cases hx : x = o
  · subst hx; rw [atKey_put_same hm (kU_key x)]; simp
  · rw [atKey_put_other (kU_ne hx), h x]; simp [hx]
/-- A set in memory. -/
def OSet (w : World) (b n : Nat) (l : List Nat) : Prop := ∃ D : DataW Unit, w.ownsMap Tryz.prog 35 (plainElem Tryz.prog 4) b n D ∧ SetD D l
theorem keyU {x : Nat} (h : x < 18446744073709551616) : keyOf Tryz.prog 35 (.int .u64 (x : Int)) = some (kU x) := keyOf_int_mk Tryz.underlying35 (wf_u64_nat h)
theorem keyedU : Keyed Tryz.prog 35 := int_keyed Tryz.underlying35
theorem plainElem_bool_inv {P : Program} {e : TypeId} (he : P.underlying e = some .bool) {v : Value} {z : DataW Unit × List MemPlace} (h : plainElem P e v = some z) : ∃ b, v = .bool b ∧ z = (.lit (.bool b), []) := by
  cases v <;> simp [plainElem, he] at h
  rename_i b
  exact ⟨b, rfl, h.symm⟩
theorem OSet.look {w : World} {b n : Nat} {l : List Nat} (h : OSet w b n l) {x : Nat} (hx : x < 18446744073709551616) : (Instr.lookup 303 (.map (some b)) (.int .u64 (x : Int)) false).run Tryz.prog w = .ok (.bool (decide (x ∈ l))) w := by
  obtain ⟨D, ho, hd⟩ := h
  obtain ⟨v, ps, hrun, hv⟩ := ho.lookup keyedU Tryz.underlying303 (z := .bool false) (by kernel_rfl) (plainElem_bool Tryz.underlying4 false) (keyU hx)
  obtain ⟨c, rfl, hc⟩ := plainElem_bool_inv Tryz.underlying4 hv
  rw [hd x] at hc
  simp at hc
  rw [hrun, hc.1]
theorem OSet.add {w : World} {b n : Nat} {l : List Nat} (h : OSet w b n l) (hn : n < maxLen) {x : Nat} (hx : x < 18446744073709551616) : ∃ w', (Instr.mapUpdate 303 (.map (some b)) (.int .u64 (x : Int)) (.bool true)).run Tryz.prog w = .ok () w' ∧ OSet w' b (n + 1) (x :: l) ∧ w.grownBy w' (some b) := by
  obtain ⟨D, ho, hd⟩ := h
  obtain ⟨w', hrun, ho', hg⟩ := ho.update keyedU Tryz.underlying303 hn (keyU hx) (plainElem_bool Tryz.underlying4 true)
  exact ⟨w', hrun, ⟨_, ho', hd.put ho.isMap x⟩, hg⟩
theorem OSet.congr {w : World} {b n : Nat} {l l' : List Nat} (h : OSet w b n l) (hl : ∀ x, x ∈ l ↔ x ∈ l') : OSet w b n l' := by
  obtain ⟨D, ho, hd⟩ := h
  exact ⟨D, ho, fun x => by rw [hd x]; simp [hl x]⟩
theorem OSet.mono {w : World} {b n n' : Nat} {l : List Nat} (h : OSet w b n l) (hn : n ≤ n') : OSet w b n' l := by
  obtain ⟨D, ho, hd⟩ := h
  exact ⟨D, ho.mono hn, hd⟩
theorem OSet.new (w : World) : OSet (w.alloc (.map #[] 0)) w.heap.size 0 [] := ⟨_, World.ownsMap_made w _ _ _, SetD.nil⟩
theorem OSet.alloc {w : World} {b n : Nat} {l : List Nat} (h : OSet w b n l) (o : Obj) : OSet (w.alloc o) b n l := by
  obtain ⟨D, ho, hd⟩ := h
  exact ⟨D, ho.alloc o, hd⟩
theorem OSet.kept {w w' : World} {b n : Nat} {l : List Nat} {row : Option Nat} (h : OSet w b n l) (hg : w.grownBy w' row) (hne : some b ≠ row) : OSet w' b n l := by
  obtain ⟨D, ho, hd⟩ := h
  exact ⟨D, ho.kept hg hne, hd⟩
theorem OSet.below {w w' : World} {b n : Nat} {l : List Nat} (h : OSet w b n l) (hb : Below w.heap.size w w') : OSet w' b n l := by
  obtain ⟨D, ho, hd⟩ := h
  exact ⟨D, (Chg.of_below (S := Fp.no) hb).map ho (fun h => h), hd⟩
theorem OSet.lt {w : World} {b n : Nat} {l : List Nat} (h : OSet w b n l) : b < w.heap.size := by
  obtain ⟨D, ho, hd⟩ := h
  exact ho.lt
theorem OSet.ne_own {w : World} {b n : Nat} {l : List Nat} (h : OSet w b n l) {base : Nat} {e : TypeId} {size m : Nat} {v : Value} {xs : List Value} (ho : w.ownsRow base e size v m xs) : some b ≠ v.ownBlock := by
  obtain ⟨D, hm, hd⟩ := h
  exact map_ne_own hm ho
/-- Which offsets are new: those seen, those new, in order. -/
def frStep (st : List Nat × List Nat) (o : Nat) : List Nat × List Nat := if o ∈ st.1 then st else (o :: st.1, st.2 ++ [o])
def fr (seen offs : List Nat) : List Nat × List Nat := offs.foldl frStep (seen, [])
theorem fr_snoc (seen offs : List Nat) (o : Nat) : fr seen (offs ++ [o]) = frStep (fr seen offs) o := by simp [fr]
theorem frStep_len (st : List Nat × List Nat) (o : Nat) : (frStep st o).2.length ≤ st.2.length + 1 := by
  unfold frStep
  split
  · exact Nat.le_succ _
  · simp
theorem fr_len : ∀ (offs : List Nat) (st : List Nat × List Nat), (offs.foldl frStep st).2.length ≤ st.2.length + offs.length
  | [], st => by simp
  | o :: offs, st => by
    have h := fr_len offs (frStep st o)
    have h2 := frStep_len st o
    simp only [List.foldl_cons, List.length_cons]
    omega
theorem frStep_mem (st : List Nat × List Nat) (o x : Nat) (h : x ∈ (frStep st o).2) : x ∈ st.2 ∨ x = o := by
  unfold frStep at h
  split at h
  · exact .inl h
  · simpa using h
theorem fr_mem : ∀ (offs : List Nat) (st : List Nat × List Nat) (x : Nat), x ∈ (offs.foldl frStep st).2 → x ∈ st.2 ∨ x ∈ offs
  | [], st, x, h => .inl h
  | o :: offs, st, x, h => by
    rcases fr_mem offs (frStep st o) x h with h | h
    · rcases frStep_mem st o x h with h | h
      · exact .inl h
      · exact .inr (by simp [h])
    · exact .inr (by simp [h])
end Go.Proofs.YtklpeghhgoeeiaaGreatDoor
