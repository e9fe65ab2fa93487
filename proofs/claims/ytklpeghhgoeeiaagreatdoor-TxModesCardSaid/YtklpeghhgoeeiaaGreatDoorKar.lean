/- The walks and laws that the claim leans on, part 18: each part says ahead of its lines what it holds. -/
import Derived.Test.YtklpeghhgoeeiaaGreatDoorKaq
/- tx: placed: the words that lie in the log. -/
namespace Go.Proofs.YtklpeghhgoeeiaaGreatDoor
open Go.RowKit Go.Maps Go.Shelf
def RetPl (w : World) (D : DataW Unit) (old : Bool) (e : Ending) (w' : World) : Prop := ∃ ks, ks.Perm (uKeys D) ∧ RetWr w (plW D old ks) e w'
set_option maxRecDepth 100000 in
set_option maxHeartbeats 2000000 in
theorem placed_false (w : World) (a b c d : Nat) (x y : Bool) (D : DataW Unit) (n : Nat) (ho : w.ownsMap Tryz.prog 35 cellR a n D) (hsz : Maps.size D ≤ 100) :
    Calls Tryz.prog 130 #[stV a b c d x y, .bool false] w (RetPl w D false) := by
  obtain ⟨i0, hi0, hz0, hz1, hz2⟩ := info_parts infoWrite
  have HK := Lib.hid ho
  have HSo : Hid (∀ W, Below w.heap.size w W → Calls Tryz.prog 57 #[.func (.func 231) #[] #[.pointer (some ⟨W.heap.size, 0, none⟩)]] (W.alloc (.cells #[.map (some a)] 95)) (RetU (W.alloc (.cells #[.map (some a)] 95)) (fun ys => ys.Perm (uKeys D)))) := fun W hW => sortCell W a n D ((Chg.of_below (S := Fp.no) hW).map ho (fun h => h)) hsz
  clear ho
  unfold stV
  go_enter Tryz.func130, Tryz.ntmps130
  go_wp2_with (go_at_call 186; refine (keysCell_any _ _).mono ?_; rintro e w1 ⟨rfl, rfl⟩; refine stop ?_)
  unfold Stop
  have hbw : Below w.heap.size w (w.alloc (.cells #[.map (some a), .map (some b), .map (some c), .map (some d), .bool x, .bool y] 100)) := (Below.refl _ w).alloc (Nat.le_refl _) _
  have HS := Lib.hid (HSo.out _ hbw)
  have HBx := Lib.hid ((Blk.new w 100 #[.map (some a), .map (some b), .map (some c), .map (some d), .bool x, .bool y]).alloc (.cells #[.map (some a)] 95))
  have HB1 := Lib.hid (hbw.alloc hbw.size (.cells #[.map (some a)] 95))
  have HL1 : Hid (w.heap.size + 1 < ((w.alloc (.cells #[.map (some a), .map (some b), .map (some c), .map (some d), .bool x, .bool y] 100)).alloc (.cells #[.map (some a)] 95)).heap.size) := Lib.hid (by simp)
  rw [World.size_alloc] at HS
  clear HSo hbw
  generalize (w.alloc (.cells #[.map (some a), .map (some b), .map (some c), .map (some d), .bool x, .bool y] 100)).alloc (.cells #[.map (some a)] 95) = W at *
  go_wp2_with fail
  refine HS.out.mono ?_
  rintro e W1 ⟨A, N, c0, ys, rfl, hp, hN, hos, hb1⟩
  have HPm := Lib.hid hp
  have HR := Lib.hid (Reads.of_own hos)
  have HW := Lib.hid (HB1.out.trans (hb1.mono HB1.out.size))
  have HBx1 := Lib.hid (HBx.out.below hb1 HBx.out.lt)
  have HYl : Hid (N = ys.length) := Lib.hid hN
  have HLW : Hid (w.heap.size < W1.heap.size) := Lib.hid (by have := HL1.out; have := hb1.size; omega)
  have hN12 : N ≤ 100 := by
    have h1 := hp.length_eq
    have h2 : (uKeys D).length ≤ 100 := by
      obtain ⟨es, hD, _, _⟩ := HK.out.entries keyedU
      rw [hD] at hsz ⊢
      simpa [uKeys, Maps.size] using hsz
    omega
  clear hp hos hb1 HS HBx HB1 HL1 hN
  have HO0 : Hid (W1.ownsRow W1.heap.size 130 2 (.slice none 0 0) 0 (wrCells (plW D false (ys.take 0)))) := World.ownsRow_nil _ _ _ _
  have HB0 : Hid (Below W1.heap.size W1 W1) := Lib.hid (Below.refl _ _)
  go_wp2
  go_loopw [5, 14] (fun l i wr => ∃ (k : Nat) (A : Option Addr) (m c : Nat), k ≤ N ∧ i = .int .i64 k ∧ l = .slice A m c ∧ m ≤ k ∧ Hid (m = (plW D false (ys.take k)).length) ∧ Hid (wr.ownsRow W1.heap.size 130 2 (.slice A m c) m (wrCells (plW D false (ys.take k)))) ∧ Hid (Below W1.heap.size W1 wr)) (fun _ i _ => N - (intOf i).toNat)
  case atStart => exact ⟨0, _, _, _, Nat.zero_le _, rfl, rfl, Nat.le_refl _, rfl, HO0, HB0⟩
  case round =>
    clear HO0 HB0
    obtain ⟨k, A1, m, c1, hk, rfl, rfl, hmk, HLn, HO, H2⟩ := hrel
    have H := Lib.hid (HW.out.trans (H2.out.mono HW.out.size))
    by_cases hlt : k < N
    · have hkl : k < ys.length := by have := HYl.out; omega
      have hz5 : (k : Int) < (N : Int) := by omega
      obtain ⟨_, b0, off, rfl, hbl, f1⟩ := u_facts (HR.out.below H2.out) hlt
      have k0 : wr.cell? ⟨w.heap.size, 0, none⟩ = some (.map (some a)) := (HBx1.out.below H2.out HLW.out).cell 0
      have hlk := look_at1 ((Chg.of_below (S := Fp.no) H.out).map HK.out (fun h => h)) (o := ys[k]) (key_lt HK.out (HPm.out.mem_iff.1 (List.getElem_mem hkl)))
      have HTS := Lib.hid (plW_take D false ys k hkl)
      generalize cAt D ys[k] = z at *
      obtain ⟨v1, x1, p1⟩ := z
      simp only [] at hlk HTS
      unfold cellV at hlk
      generalize ys[k] = o at *
      have HLE := Lib.hid H2.out.size
      cases p1
      · have HO4 : Hid ((wr.alloc (.cells #[.int .u64 (v1 : Int), .int .u64 (x1 : Int), .bool false] 107)).ownsRow W1.heap.size 130 2 (.slice A1 m c1) m (wrCells (plW D false (ys.take (k + 1))))) := Lib.hid (by rw [HTS.out]; simpa using HO.out.alloc _)
        have HL3 : Hid (m = (plW D false (ys.take (k + 1))).length) := Lib.hid (by rw [HTS.out, ← HLn.out.symm]; simp)
        have HB3 : Hid (Below W1.heap.size W1 (wr.alloc (.cells #[.int .u64 (v1 : Int), .int .u64 (x1 : Int), .bool false] 107))) := Lib.hid (H2.out.alloc H2.out.size _)
        go_wp2
        go_roundw
        case rel =>
          first
            | exact ⟨k + 1, _, _, _, by omega, by go_num, rfl, by omega, HL3, HO4, HB3⟩
            | (repeat apply Exists.intro
               refine ⟨?_, rfl⟩
               exact ⟨k + 1, _, _, _, by omega, by go_num, rfl, by omega, HL3, HO4, HB3⟩)
        case measure => simp [intOf]; omega
      · simp only [↓reduceIte, Bool.false_eq_true] at HTS
        go_wp2_with (at_builtin; refine stop ?_)
        unfold Stop
        have HR1 := Lib.hid (row_reads_at (wr.alloc (.cells #[.int .u64 (v1 : Int), .int .u64 (x1 : Int), .bool true] 107)) _ rfl [.int .u64 (o : Int), .int .u64 (v1 : Int)] 1 2 130 _ rfl rfl)
        rw [World.size_alloc] at HR1
        refine wpList_app _ (.tmp 22) (.tmp 27) 120 rfl rfl W1.heap.size 130 i0 _ 2 16 Tryz.underlying120 hi0 hz0 hz1 hz2 rfl (by omega) (.slice A1 m c1) m (wrCells (plW D false (ys.take k))) rfl ((HO.out.alloc _).alloc _) (wr.heap.size + 1 + 1) (some ⟨wr.heap.size + 1, 0, none⟩) 1 1 [.int .u64 (o : Int), .int .u64 (v1 : Int)] rfl HR1.out (u64s_one _ _) (by unfold maxLen; omega) (by omega) (by have := HLE.out; simp; omega) ?_
        intro A3 n3 c3 w8 hn3 ho3 hg3 hb3
        have HO4 : Hid (w8.ownsRow W1.heap.size 130 2 (.slice A3 n3 c3) n3 (wrCells (plW D false (ys.take (k + 1))))) := Lib.hid (by rw [HTS.out, wrCells_snoc]; exact ho3)
        have HB3 := Lib.hid (((H2.out.alloc H2.out.size _).alloc (by have := HLE.out; simp; omega) _).trans hb3)
        have b1 : n3 ≤ m + 1 := by omega
        have b2 : m + 1 ≤ n3 := by omega
        have HL3 : Hid (m + 1 = (plW D false (ys.take (k + 1))).length) := Lib.hid (by rw [HTS.out, List.length_append, ← HLn.out]; simp)
        have HN3 : Hid (n3 = m + 1) := Lib.hid (by omega)
        clear hn3 ho3 hg3 hb3
        go_wp2
        go_roundw
        case rel =>
          first
            | exact ⟨k + 1, _, _, _, by omega, by go_num, rfl, by omega, Lib.hid (HN3.out.trans HL3.out), HO4, HB3⟩
            | (repeat apply Exists.intro
               refine ⟨?_, rfl⟩
               exact ⟨k + 1, _, _, _, by omega, by go_num, rfl, by omega, Lib.hid (HN3.out.trans HL3.out), HO4, HB3⟩)
        case measure => simp [intOf]; omega
    · have hkN : k = N := by omega
      go_wp2
      go_ret
      have h := HO.out
      have hl := HLn.out
      rw [List.take_of_length_le (by have := HYl.out; omega)] at h hl
      exact ⟨ys, HPm.out, _, _, _, rfl, hl, own_le h HW.out.size, H.out⟩
set_option maxRecDepth 100000 in
set_option maxHeartbeats 2000000 in
theorem placed_true (w : World) (a b c d : Nat) (x y : Bool) (D : DataW Unit) (n : Nat) (ho : w.ownsMap Tryz.prog 35 cellR a n D) (hsz : Maps.size D ≤ 100) :
    Calls Tryz.prog 130 #[stV a b c d x y, .bool true] w (RetPl w D true) := by
  obtain ⟨i0, hi0, hz0, hz1, hz2⟩ := info_parts infoWrite
  have HK := Lib.hid ho
  have HSo : Hid (∀ W, Below w.heap.size w W → Calls Tryz.prog 57 #[.func (.func 231) #[] #[.pointer (some ⟨W.heap.size, 0, none⟩)]] (W.alloc (.cells #[.map (some a)] 95)) (RetU (W.alloc (.cells #[.map (some a)] 95)) (fun ys => ys.Perm (uKeys D)))) := fun W hW => sortCell W a n D ((Chg.of_below (S := Fp.no) hW).map ho (fun h => h)) hsz
  clear ho
  unfold stV
  go_enter Tryz.func130, Tryz.ntmps130
  go_wp2_with (go_at_call 186; refine (keysCell_any _ _).mono ?_; rintro e w1 ⟨rfl, rfl⟩; refine stop ?_)
  unfold Stop
  have hbw : Below w.heap.size w (w.alloc (.cells #[.map (some a), .map (some b), .map (some c), .map (some d), .bool x, .bool y] 100)) := (Below.refl _ w).alloc (Nat.le_refl _) _
  have HS := Lib.hid (HSo.out _ hbw)
  have HBx := Lib.hid ((Blk.new w 100 #[.map (some a), .map (some b), .map (some c), .map (some d), .bool x, .bool y]).alloc (.cells #[.map (some a)] 95))
  have HB1 := Lib.hid (hbw.alloc hbw.size (.cells #[.map (some a)] 95))
  have HL1 : Hid (w.heap.size + 1 < ((w.alloc (.cells #[.map (some a), .map (some b), .map (some c), .map (some d), .bool x, .bool y] 100)).alloc (.cells #[.map (some a)] 95)).heap.size) := Lib.hid (by simp)
  rw [World.size_alloc] at HS
  clear HSo hbw
  generalize (w.alloc (.cells #[.map (some a), .map (some b), .map (some c), .map (some d), .bool x, .bool y] 100)).alloc (.cells #[.map (some a)] 95) = W at *
  go_wp2_with fail
  refine HS.out.mono ?_
  rintro e W1 ⟨A, N, c0, ys, rfl, hp, hN, hos, hb1⟩
  have HPm := Lib.hid hp
  have HR := Lib.hid (Reads.of_own hos)
  have HW := Lib.hid (HB1.out.trans (hb1.mono HB1.out.size))
  have HBx1 := Lib.hid (HBx.out.below hb1 HBx.out.lt)
  have HYl : Hid (N = ys.length) := Lib.hid hN
  have HLW : Hid (w.heap.size < W1.heap.size) := Lib.hid (by have := HL1.out; have := hb1.size; omega)
  have hN12 : N ≤ 100 := by
    have h1 := hp.length_eq
    have h2 : (uKeys D).length ≤ 100 := by
      obtain ⟨es, hD, _, _⟩ := HK.out.entries keyedU
      rw [hD] at hsz ⊢
      simpa [uKeys, Maps.size] using hsz
    omega
  clear hp hos hb1 HS HBx HB1 HL1 hN
  have HO0 : Hid (W1.ownsRow W1.heap.size 130 2 (.slice none 0 0) 0 (wrCells (plW D true (ys.take 0)))) := World.ownsRow_nil _ _ _ _
  have HB0 : Hid (Below W1.heap.size W1 W1) := Lib.hid (Below.refl _ _)
  go_wp2
  go_loopw [5, 14] (fun l i wr => ∃ (k : Nat) (A : Option Addr) (m c : Nat), k ≤ N ∧ i = .int .i64 k ∧ l = .slice A m c ∧ m ≤ k ∧ Hid (m = (plW D true (ys.take k)).length) ∧ Hid (wr.ownsRow W1.heap.size 130 2 (.slice A m c) m (wrCells (plW D true (ys.take k)))) ∧ Hid (Below W1.heap.size W1 wr)) (fun _ i _ => N - (intOf i).toNat)
  case atStart => exact ⟨0, _, _, _, Nat.zero_le _, rfl, rfl, Nat.le_refl _, rfl, HO0, HB0⟩
  case round =>
    clear HO0 HB0
    obtain ⟨k, A1, m, c1, hk, rfl, rfl, hmk, HLn, HO, H2⟩ := hrel
    have H := Lib.hid (HW.out.trans (H2.out.mono HW.out.size))
    by_cases hlt : k < N
    · have hkl : k < ys.length := by have := HYl.out; omega
      have hz5 : (k : Int) < (N : Int) := by omega
      obtain ⟨_, b0, off, rfl, hbl, f1⟩ := u_facts (HR.out.below H2.out) hlt
      have k0 : wr.cell? ⟨w.heap.size, 0, none⟩ = some (.map (some a)) := (HBx1.out.below H2.out HLW.out).cell 0
      have hlk := look_at1 ((Chg.of_below (S := Fp.no) H.out).map HK.out (fun h => h)) (o := ys[k]) (key_lt HK.out (HPm.out.mem_iff.1 (List.getElem_mem hkl)))
      have HTS := Lib.hid (plW_take D true ys k hkl)
      generalize cAt D ys[k] = z at *
      obtain ⟨v1, x1, p1⟩ := z
      simp only [] at hlk HTS
      unfold cellV at hlk
      generalize ys[k] = o at *
      have HLE := Lib.hid H2.out.size
      cases p1
      · have HO4 : Hid ((wr.alloc (.cells #[.int .u64 (v1 : Int), .int .u64 (x1 : Int), .bool false] 107)).ownsRow W1.heap.size 130 2 (.slice A1 m c1) m (wrCells (plW D true (ys.take (k + 1))))) := Lib.hid (by rw [HTS.out]; simpa using HO.out.alloc _)
        have HL3 : Hid (m = (plW D true (ys.take (k + 1))).length) := Lib.hid (by rw [HTS.out, ← HLn.out.symm]; simp)
        have HB3 : Hid (Below W1.heap.size W1 (wr.alloc (.cells #[.int .u64 (v1 : Int), .int .u64 (x1 : Int), .bool false] 107))) := Lib.hid (H2.out.alloc H2.out.size _)
        go_wp2
        go_roundw
        case rel =>
          first
            | exact ⟨k + 1, _, _, _, by omega, by go_num, rfl, by omega, HL3, HO4, HB3⟩
            | (repeat apply Exists.intro
               refine ⟨?_, rfl⟩
               exact ⟨k + 1, _, _, _, by omega, by go_num, rfl, by omega, HL3, HO4, HB3⟩)
        case measure => simp [intOf]; omega
      · simp only [↓reduceIte] at HTS
        go_wp2_with (at_builtin; refine stop ?_)
        unfold Stop
        have HR1 := Lib.hid (row_reads_at (wr.alloc (.cells #[.int .u64 (v1 : Int), .int .u64 (x1 : Int), .bool true] 107)) _ rfl [.int .u64 (o : Int), .int .u64 (x1 : Int)] 1 2 130 _ rfl rfl)
        rw [World.size_alloc] at HR1
        refine wpList_app _ (.tmp 35) (.tmp 40) 120 rfl rfl W1.heap.size 130 i0 _ 2 16 Tryz.underlying120 hi0 hz0 hz1 hz2 rfl (by omega) (.slice A1 m c1) m (wrCells (plW D true (ys.take k))) rfl ((HO.out.alloc _).alloc _) (wr.heap.size + 1 + 1) (some ⟨wr.heap.size + 1, 0, none⟩) 1 1 [.int .u64 (o : Int), .int .u64 (x1 : Int)] rfl HR1.out (u64s_one _ _) (by unfold maxLen; omega) (by omega) (by have := HLE.out; simp; omega) ?_
        intro A3 n3 c3 w8 hn3 ho3 hg3 hb3
        have HO4 : Hid (w8.ownsRow W1.heap.size 130 2 (.slice A3 n3 c3) n3 (wrCells (plW D true (ys.take (k + 1))))) := Lib.hid (by rw [HTS.out, wrCells_snoc]; exact ho3)
        have HB3 := Lib.hid (((H2.out.alloc H2.out.size _).alloc (by have := HLE.out; simp; omega) _).trans hb3)
        have b1 : n3 ≤ m + 1 := by omega
        have b2 : m + 1 ≤ n3 := by omega
        have HL3 : Hid (m + 1 = (plW D true (ys.take (k + 1))).length) := Lib.hid (by rw [HTS.out, List.length_append, ← HLn.out]; simp)
        have HN3 : Hid (n3 = m + 1) := Lib.hid (by omega)
        clear hn3 ho3 hg3 hb3
        go_wp2
        go_roundw
        case rel =>
          first
            | exact ⟨k + 1, _, _, _, by omega, by go_num, rfl, by omega, Lib.hid (HN3.out.trans HL3.out), HO4, HB3⟩
            | (repeat apply Exists.intro
               refine ⟨?_, rfl⟩
               exact ⟨k + 1, _, _, _, by omega, by go_num, rfl, by omega, Lib.hid (HN3.out.trans HL3.out), HO4, HB3⟩)
        case measure => simp [intOf]; omega
    · have hkN : k = N := by omega
      go_wp2
      go_ret
      have h := HO.out
      have hl := HLn.out
      rw [List.take_of_length_le (by have := HYl.out; omega)] at h hl
      exact ⟨ys, HPm.out, _, _, _, rfl, hl, own_le h HW.out.size, H.out⟩
end Go.Proofs.YtklpeghhgoeeiaaGreatDoor
/- tx: place: the log and the memory agree with the state. -/
namespace Go.Proofs.YtklpeghhgoeeiaaGreatDoor
open Go.RowKit Go.Maps Go.Shelf
set_option maxRecDepth 100000 in
set_option maxHeartbeats 1000000 in
theorem err_dev {a : DA} {L T : Nat} {w : World} {S : Fp} {cur : Nat → Nat} {F : Nat} (h : Dev a L T w S cur F) {j : Nat} (hj : j < 8) :
    Calls Tryz.prog 48 #[.pointer (some ⟨a.th j, 0, none⟩)] w fun e w' => e = .returned (.int .i64 0) ∧ w = w' := by
  obtain ⟨ls, exe, per, cs, lsC, hdc, hnt⟩ := h
  obtain ⟨f0, _, _, _, f4⟩ := hdc.facts hj
  clear hdc hnt
  go_enter Tryz.func48, Tryz.ntmps48
  go_wp2
  go_ret
  exact ⟨rfl, rfl⟩
set_option maxRecDepth 100000 in
set_option maxHeartbeats 1000000 in
theorem rollbackU_nil {a : DA} {L T : Nat} {w : World} {S : Fp} {cur : Nat → Nat} {F : Nat} (h : Dev a L T w S cur F) (g s n : Nat) (hB : Blk w g 186 (ulogCells a s n)) (hs : s < L) (hn : 2 ≤ n) (hn2 : n ≤ 4096) (h0 : cur (8 * s) = 0) :
    Calls Tryz.prog 129 #[.pointer (some ⟨g, 0, none⟩)] w fun e w' => e = .returned (.int .i64 0) ∧ Below w.heap.size w w' := by
  have HP := Lib.hid (undoRecover_none h g s n hB hs hn hn2 h0)
  clear h hB
  go_enter Tryz.func129, Tryz.ntmps129
  go_wp2_with fail
  refine HP.out.mono ?_
  rintro e w1 ⟨rfl, h1⟩
  have H1 := Lib.hid h1
  clear h1
  go_wp2
  go_ret
  exact ⟨rfl, H1.out⟩
/-- The words behind a Rollback of the log. -/
def rbC (cur : Nat → Nat) (ws : List (Nat × Nat)) : Nat → Nat := if ws = [] then cur else wrS (wrS cur ws) [(1920, 0)]
/-- Entries that may be written back; there may be none. -/
structure EntO (ws : List (Nat × Nat)) : Prop where
  off : ∀ e ∈ ws, OffOk 152 30 26 e.1
  val : ∀ e ∈ ws, e.2 < 18446744073709551616
  few : ws.length ≤ 100
theorem EntO.ok {ws : List (Nat × Nat)} (h : EntO ws) (h0 : ws ≠ []) : EntOk 152 30 26 ws := ⟨h.off, h.val, h.few, h0⟩
theorem RetDev.of_below {a : DA} {L T T' : Nat} {w w' : World} {S : Fp} {cur : Nat → Nat} {v : Value} (h : Dev a L T w S cur 0) (hT : T ≤ T') (hT' : T' ≤ 1000000000) (hb : Below w.heap.size w w') : RetDev a L T' w S cur 0 v (.returned v) w' := ⟨rfl, S, (h.below hb).more hT hT', Chg.of_below hb, Grew.refl _ _⟩
theorem rollbackU_all {a : DA} {T : Nat} {w : World} {S : Fp} {cur : Nat → Nat} (h : Dev a 152 T w S cur 0) (g : Nat) (hB : Blk w g 186 (ulogCells a 30 26)) (ws : List (Nat × Nat)) (hl : LogU cur 30 ws) (hw : EntO ws) (hT : T + 240 ≤ 1000000000) :
    Calls Tryz.prog 129 #[.pointer (some ⟨g, 0, none⟩)] w (RetDev a 152 (T + 240) w S (rbC cur ws) 0 (.int .i64 0)) := by
  unfold rbC
  by_cases h0 : ws = []
  · rw [if_pos h0]
    subst h0
    refine (rollbackU_nil h g 30 26 hB (by omega) (by omega) (by omega) hl.count).mono ?_
    rintro e w' ⟨rfl, hb⟩
    exact RetDev.of_below h (by omega) hT hb
  · rw [if_neg h0]
    exact rollbackU_any h g 30 26 hB (by omega) (by omega) ws hl (hw.ok h0) hT
theorem logU_rb {cur : Nat → Nat} {ws : List (Nat × Nat)} (hl : LogU cur 30 ws) : LogU (rbC cur ws) 30 [] := by
  refine LogU.none ?_
  unfold rbC
  by_cases h0 : ws = []
  · rw [if_pos h0]
    subst h0
    exact hl.count
  · rw [if_neg h0]
    simp [wrS, upd]
theorem fr_nodup : ∀ (os seen acc : List Nat), os.Nodup → (∀ o ∈ os, o ∉ seen) → (os.foldl frStep (seen, acc)).2 = acc ++ os
  | [], seen, acc, _, _ => by simp
  | o :: os, seen, acc, hn, hs => by
    have h1 : o ∉ seen := hs o (by simp)
    have h2 : frStep (seen, acc) o = (o :: seen, acc ++ [o]) := by simp [frStep, h1]
    obtain ⟨h3, h4⟩ := List.nodup_cons.1 hn
    rw [List.foldl_cons, h2, fr_nodup os (o :: seen) (acc ++ [o]) h4 (fun x hx => by
      intro hm
      rcases List.mem_cons.1 hm with e | e
      · exact h3 (e ▸ hx)
      · exact hs x (by simp [hx]) e)]
    simp
theorem fr_nil {os : List Nat} (h : os.Nodup) : (fr (([] : List (Nat × Nat)).map (·.1)) os).2 = os := by
  have := fr_nodup os [] [] h (fun o _ => by simp)
  simpa [fr] using this
theorem sortU0 (W : World) (b : Nat) (ho : W.ownsMap Tryz.prog 35 oneR b 0 (.map [])) :
    Calls Tryz.prog 57 #[.func (.func 128) #[] #[.pointer (some ⟨W.heap.size, 0, none⟩)]] (W.alloc (.cells #[.map (some b)] 96)) fun e w' => (∃ A c, e = .returned (.slice A 0 c)) ∧ Below (W.alloc (.cells #[.map (some b)] 96)).heap.size (W.alloc (.cells #[.map (some b)] 96)) w' := by
  refine (sorted_any _ _ (enters_of Tryz.func128 (by kernel_rfl) rfl) (uKeys (.map [] : DataW Unit)) (Maps.size (.map [] : DataW Unit)) (by simp [Maps.size]) _ (keysU_gives 9 W.heap.size b 0 _ _ (by simp) ((Blk.new W 96 #[.map (some b)]).cell 0) (ho.alloc _) (by omega))).mono ?_
  rintro e w' ⟨A, m, c, ys, rfl, hp, hm, ho, hb⟩
  have hy : ys = [] := by have := hp.length_eq; simp [uKeys] at this; exact this
  subst hy
  subst hm
  exact ⟨⟨A, c, rfl⟩, hb⟩
/-- A step of the device, in a bound of stores. -/
theorem TxS.moreT {c : CX} {g : Nat} {w : World} {S : Fp} {t : TX} {D : DataW Unit} {n : Nat} {cur : Nat → Nat} {T T' : Nat} (h : TxS c g w S t D n cur T) (hT : T ≤ T') (hT' : T' ≤ 1000000000) : TxS c g w S t D n cur T' :=
  { h with base := { h.base with dev := h.base.dev.more hT hT' } }
/-- While place stores. -/
def StI (c : CX) (g : Nat) (W w : World) (S : Fp) (t : TX) (D : DataW Unit) (n : Nat) (cur : Nat → Nat) (T : Nat) : Prop := ∃ S', TxS c g w S' t D n cur T ∧ Chg S W w ∧ Grew S S' W
theorem StI.step {c : CX} {g : Nat} {W w w' : World} {S : Fp} {t : TX} {D : DataW Unit} {n : Nat} {cur cur' : Nat → Nat} {T T' : Nat} {v : Value} {e : Ending} {S1 : Fp} (hx : TxS c g w S1 t D n cur T) (hc : Chg S W w) (hg : Grew S S1 W) (hr : RetDev c.a 152 T' w S1 cur' 0 v e w') : e = .returned v ∧ StI c g W w' S t D n cur' T' := by
  obtain ⟨he, S2, hx2, hc2, hg2⟩ := hx.step hr
  exact ⟨he, S2, hx2, hc.trans hc2 hg, hg.trans hg2 hc.size⟩
theorem StI.below {c : CX} {g : Nat} {W w w' : World} {S : Fp} {t : TX} {D : DataW Unit} {n : Nat} {cur : Nat → Nat} {T : Nat} (h : StI c g W w S t D n cur T) (hb : Below w.heap.size w w') : StI c g W w' S t D n cur T := by
  obtain ⟨S', hx, hc, hg⟩ := h
  exact ⟨S', hx.more_ hb, hc.below hb, hg⟩
theorem StI.trans {c : CX} {g : Nat} {W w w' : World} {S S1 : Fp} {t : TX} {D : DataW Unit} {n : Nat} {cur : Nat → Nat} {T : Nat} (hc : Chg S w W) (hg : Grew S S1 w) (h : StI c g W w' S1 t D n cur T) : StI c g w w' S t D n cur T := by
  obtain ⟨S', hx, hc2, hg2⟩ := h
  exact ⟨S', hx, hc.trans hc2 hg, hg.trans hg2 hc.size⟩
theorem wrS_take (cur : Nat → Nat) (l : List (Nat × Nat)) (k : Nat) (hk : k < l.length) : wrS cur (l.take (k + 1)) = upd (wrS cur (l.take k)) (l[k].1 / 8) l[k].2 := by
  rw [takeS _ _ hk, wrS_app]; rfl
theorem plW_mem {D : DataW Unit} {old : Bool} {ks : List Nat} {e : Nat × Nat} (h : e ∈ plW D old ks) : e.1 ∈ ks ∧ (cAt D e.1).2.2 = true ∧ e.2 = (if old then (cAt D e.1).2.1 else (cAt D e.1).1) := by
  unfold plW at h
  obtain ⟨o, ho, he⟩ := List.mem_filterMap.1 h
  by_cases hp : (cAt D o).2.2 = true
  · rw [if_pos hp] at he
    injection he with he
    subst he
    exact ⟨ho, hp, rfl⟩
  · rw [if_neg hp] at he
    cases he
theorem plW_nodup {D : DataW Unit} {old : Bool} {ks : List Nat} (h : ks.Nodup) : ((plW D old ks).map (·.1)).Nodup := by
  have hs : ((plW D old ks).map (·.1)).Sublist ks := by
    unfold plW
    induction ks with
    | nil => simp
    | cons o r ih =>
      by_cases hp : (cAt D o).2.2 = true
      · simp only [List.filterMap_cons, hp, ↓reduceIte, List.map_cons]
        exact (ih (List.nodup_cons.1 h).2).cons_cons _
      · simp only [List.filterMap_cons, hp, Bool.false_eq_true, ↓reduceIte]
        exact (ih (List.nodup_cons.1 h).2).cons _
  exact hs.nodup h
theorem uKeys_nodup {w : World} {b n : Nat} {D : DataW Unit} {R : Value → Option (DataW Unit × List MemPlace)} (h : w.ownsMap Tryz.prog 35 R b n D) : (uKeys D).Nodup := by
  obtain ⟨es, hD, hpw, _⟩ := h.entries keyedU
  have hko : ∀ p ∈ es, KeysOf Tryz.prog 35 p.1 := by
    obtain ⟨es', clock, _, F, _, hD'⟩ := h
    rw [hD'] at hD
    injection hD with hD
    subst hD
    exact fun p hp => fit_keys F p (mem_sorted.1 hp)
  subst hD
  show (es.map fun p => litNat p.1).Nodup
  refine List.pairwise_map.2 (hpw.imp_of_mem fun {p q} hp' hq' hne e => hne ?_)
  obtain ⟨v, hv⟩ := hko p hp'
  obtain ⟨u, hu⟩ := hko q hq'
  obtain ⟨x, _, hx, _⟩ := keyOf_u64 Tryz.underlying35 hv
  obtain ⟨y, _, hy, _⟩ := keyOf_u64 Tryz.underlying35 hu
  rw [hx, hy] at e ⊢
  have : x = y := by simpa [litNat, kU] using e
  rw [this]
theorem uKeys_size {w : World} {b n : Nat} {D : DataW Unit} {R : Value → Option (DataW Unit × List MemPlace)} (h : w.ownsMap Tryz.prog 35 R b n D) : (uKeys D).length = Maps.size D := by
  obtain ⟨es, hD, _, _⟩ := h.entries keyedU
  rw [hD]
  simp [uKeys, Maps.size]
/-- What a store of the round looks at. -/
def PlT (g m th v : Nat) (o x : Nat) (w' : World) : Prop := w'.cell? ⟨g, 6, none⟩ = some (.pointer (some ⟨m, 0, none⟩)) ∧ w'.cell? ⟨m, 0, none⟩ = some (.pointer (some ⟨th, 0, none⟩)) ∧ w'.cell? ⟨v, 0, none⟩ = some (.int .u64 (o : Int)) ∧ w'.cell? ⟨v, 1, none⟩ = some (.int .u64 (x : Int))
/-- The words behind place. -/
def plC (cur : Nat → Nat) (ws : List (Nat × Nat)) (D : DataW Unit) (ks : List Nat) : Nat → Nat := wrS (svC (rbC cur ws) 1920 0 ((plW D false ks).map (·.1))) (plW D false ks)
def RetPlace (c : CX) (g : Nat) (w : World) (S : Fp) (t : TX) (D : DataW Unit) (n : Nat) (cur : Nat → Nat) (T : Nat) (ws : List (Nat × Nat)) (e : Ending) (w' : World) : Prop :=
  ∃ ks, ks.Perm (uKeys D) ∧ e = .returned (.int .i64 0) ∧ StI c g w w' S t D n (plC cur ws D ks) (T + 500)
def PlS (g m u : Nat) (w' : World) : Prop := w'.cell? ⟨g, 6, none⟩ = some (.pointer (some ⟨m, 0, none⟩)) ∧ w'.cell? ⟨m, 2, none⟩ = some (.pointer (some ⟨u, 0, none⟩))
set_option maxRecDepth 100000 in
set_option maxHeartbeats 2000000 in
theorem place_any {c : CX} {g : Nat} {w : World} {S : Fp} {t : TX} {D : DataW Unit} {n : Nat} {cur : Nat → Nat} {T : Nat} (h : TxS c g w S t D n cur T) {ws : List (Nat × Nat)} (hl : LogU cur 30 ws) (hw : EntO ws) (hT : T ≤ 1000000) (hsz : Maps.size D ≤ 50) (hk : ∀ o ∈ uKeys D, OffOk 152 30 26 o) (hcv : ∀ i, rbC cur ws i < 18446744073709551616) :
    Calls Tryz.prog 59 #[.pointer (some ⟨g, 0, none⟩)] w (RetPlace c g w S t D n cur T ws) := by
  have HRb := Lib.hid (rollbackU_all h.base.dev c.x.u h.base.sys.u ws hl hw (by omega))
  have HX := Lib.hid h
  have HLr := Lib.hid (logU_rb hl)
  have c6 : w.cell? ⟨g, 6, none⟩ = some (.pointer (some ⟨c.x.m, 0, none⟩)) := h.tx.cell 6
  have m2 : w.cell? ⟨c.x.m, 2, none⟩ = some (.pointer (some ⟨c.x.u, 0, none⟩)) := h.base.sys.m.cell 2
  clear h hl hw
  go_enter Tryz.func59, Tryz.ntmps59
  go_wp2_with fail
  refine HRb.out.mono ?_
  intro e W1 h1
  obtain ⟨rfl, S1, hx1, hc1, hg1⟩ := HX.out.step h1
  have HX1 := Lib.hid hx1
  have HC1 := Lib.hid hc1
  have HG1 := Lib.hid hg1
  have HPl := Lib.hid (placed_false W1 t.words t.inner t.own t.freed t.outside t.surplus D n hx1.maps.words (by omega))
  have d0 : W1.cell? ⟨g, 0, none⟩ = some (.map (some t.words)) := hx1.tx.cell 0
  have d1 : W1.cell? ⟨g, 1, none⟩ = some (.map (some t.inner)) := hx1.tx.cell 1
  have d2 : W1.cell? ⟨g, 2, none⟩ = some (.map (some t.own)) := hx1.tx.cell 2
  have d3 : W1.cell? ⟨g, 3, none⟩ = some (.map (some t.freed)) := hx1.tx.cell 3
  have d4 : W1.cell? ⟨g, 4, none⟩ = some (.bool t.outside) := hx1.tx.cell 4
  have d5 : W1.cell? ⟨g, 5, none⟩ = some (.bool t.surplus) := hx1.tx.cell 5
  clear h1 hx1 hc1 hg1 c6 m2 HRb
  unfold stV at HPl
  go_wp2_with fail
  refine HPl.out.mono ?_
  rintro e W2 ⟨ks, hp, A, m, c0, rfl, hm, ho, hb⟩
  have HX2 := Lib.hid (HX1.out.more_ hb)
  have HC2 := Lib.hid (HC1.out.below hb)
  have HP := Lib.hid hp
  have HO := Lib.hid ho
  have HM : Hid (m = (plW D false ks).length) := Lib.hid hm
  have hkl : ks.length ≤ 50 := by rw [hp.length_eq, uKeys_size HX1.out.maps.words]; exact hsz
  have hml : (plW D false ks).length ≤ 50 := Nat.le_trans (plW_len _ _ _) hkl
  have HOf : Hid (∀ e ∈ plW D false ks, OffOk 152 30 26 e.1) := Lib.hid (fun e he => hk _ (hp.mem_iff.1 (plW_mem he).1))
  have HNd : Hid (((plW D false ks).map (·.1)).Nodup) := Lib.hid (plW_nodup (hp.nodup_iff.2 (uKeys_nodup HX1.out.maps.words)))
  have HRow : Hid (∀ W', Chg S1 W2 W' → Reads W' W2.heap.size 2 A m (wrCells (plW D false ks))) := Lib.hid (fun W' hc => hc.reads (Reads.of_own ho) (Nat.le_refl _) (own_off ho (fun k hk => HX1.out.base.dev.lt k hk)))
  clear hp hm ho hb d0 d1 d2 d3 d4 d5 HPl HC1
  generalize hws1 : plW D false ks = ws1 at *
  have HW1 := Lib.hid hws1
  clear hws1
  go_wp2_with fail
  have HS0 : Hid (PlS g c.x.m c.x.u W2.drew) := Lib.hid (show PlS g c.x.m c.x.u W2 from ⟨HX2.out.tx.cell 6, HX2.out.base.sys.m.cell 2⟩)
  refine wp_region_script (PlS g c.x.m c.x.u) 9 [(true, 0), (true, 1), (true, 2), (true, 3), (true, 4), (true, 5), (true, 6), (true, 7), (false, 8)] (by kernel_rfl) (by kernel_rfl) HS0.out ?_
  refine wpScript_take (.pointer (some ⟨g, 0, none⟩)) (by rfl) (by rfl) (fun w' hS => ?_) ?_
  · go_simp
  simp only [List.getElem_toArray, List.getElem_cons_zero, Act.put, List.setIfInBounds_toArray, List.set_cons_zero, List.set_cons_succ]
  refine wpScript_take (.pointer (some ⟨g, 0, none⟩)) (by rfl) (by rfl) (fun w' hS => ?_) ?_
  · go_simp
  simp only [List.getElem_toArray, List.getElem_cons_zero, List.getElem_cons_succ, Act.put, List.setIfInBounds_toArray, List.set_cons_zero, List.set_cons_succ]
  refine wpScript_take (.pointer (some ⟨g, 6, none⟩)) (by rfl) (by rfl) (fun w' hS => ?_) ?_
  · go_simp
  simp only [List.getElem_toArray, List.getElem_cons_zero, List.getElem_cons_succ, Act.put, List.setIfInBounds_toArray, List.set_cons_zero, List.set_cons_succ]
  refine wpScript_take (.pointer (some ⟨c.x.m, 0, none⟩)) (by rfl) (by rfl) (fun w' hS => ?_) ?_
  · have f1 := hS.1
    go_simp
  simp only [List.getElem_toArray, List.getElem_cons_zero, List.getElem_cons_succ, Act.put, List.setIfInBounds_toArray, List.set_cons_zero, List.set_cons_succ]
  refine wpScript_take (.pointer (some ⟨c.x.m, 0, none⟩)) (by rfl) (by rfl) (fun w' hS => ?_) ?_
  · go_simp
  simp only [List.getElem_toArray, List.getElem_cons_zero, List.getElem_cons_succ, Act.put, List.setIfInBounds_toArray, List.set_cons_zero, List.set_cons_succ]
  refine wpScript_take (.pointer (some ⟨c.x.m, 2, none⟩)) (by rfl) (by rfl) (fun w' hS => ?_) ?_
  · go_simp
  simp only [List.getElem_toArray, List.getElem_cons_zero, List.getElem_cons_succ, Act.put, List.setIfInBounds_toArray, List.set_cons_zero, List.set_cons_succ]
  refine wpScript_take (.pointer (some ⟨c.x.u, 0, none⟩)) (by rfl) (by rfl) (fun w' hS => ?_) ?_
  · have f1 := hS.2
    go_simp
  simp only [List.getElem_toArray, List.getElem_cons_zero, List.getElem_cons_succ, Act.put, List.setIfInBounds_toArray, List.set_cons_zero, List.set_cons_succ]
  refine wpScript_take (.slice A m c0) (by rfl) (by rfl) (fun w' hS => ?_) ?_
  · go_simp
  simp only [List.getElem_toArray, List.getElem_cons_zero, List.getElem_cons_succ, Act.put, List.setIfInBounds_toArray, List.set_cons_zero, List.set_cons_succ]
  refine wpScript_do (by rfl) ?_
  go_wp2_with fail
  refine (offsets_any A m c0 ws1 W2.drew (HRow.out _ (Chg.refl _ _).drew) (by have := HM.out; omega)).mono ?_
  rintro e W3 ⟨A3, m3, c3, ys, rfl, rfl, hm3, ho3, hb3⟩
  have hb32 : Below W2.heap.size W2 W3 := (Below.refl _ W2).drew.trans hb3
  have HX3 := Lib.hid (HX2.out.more_ hb32)
  have HC3 : Hid (Chg S1 W2 W3) := Lib.hid (Chg.of_below hb32)
  have HSv := Lib.hid (saveU_any HX3.out.base.dev c.x.u 30 26 HX3.out.base.sys.u (by omega) (by omega) [] HLr.out (fun e he => by simp at he) A3 m3 c3 (ws1.map (·.1)) (ws1.map (·.1)) (fr_nil HNd.out) (Reads.of_own ho3) (fun q hq => by
    obtain ⟨e, he, rfl⟩ := List.mem_map.1 hq
    exact HOf.out e he) (by simp; omega) (by rw [hm3]; simp; omega) (by simp; omega) (fun i _ => hcv i) (by simp; omega))
  have HM3 := Lib.hid hm3
  clear hm3 ho3 hb3 hb32 HS0 HX2
  go_wp2_with fail
  refine ⟨⟨HX3.out.tx.cell 6, HX3.out.base.sys.m.cell 2⟩, ?_⟩
  show wpList _ _ _ _ _ _
  simp only [List.drop_succ_cons, List.drop_zero]
  go_wp2_with fail
  refine HSv.out.mono ?_
  intro e W4 h4
  obtain ⟨rfl, HI⟩ := StI.step HX3.out HC3.out (Grew.refl _ _) h4
  have HI4 := Lib.hid (HI)
  clear HI h4 HSv HC3 HX3
  go_wp2
  refine NoPanic.normal ?_
  generalize hc2e : svC (rbC cur ws) (64 * 30) ([] : List (Nat × Nat)).length (ws1.map (·.1)) = cur2 at *
  generalize hT1e : T + 240 + (4 * (ws1.map (·.1)).length + 4) = T1 at *
  have HT1 : Hid (T1 ≤ T + 444) := Lib.hid (by have : (ws1.map (·.1)).length ≤ 50 := by simpa using hml
                                               omega)
  have HCe := Lib.hid hc2e
  clear hc2e hT1e
  go_wp2
  go_loopw [41] (fun i wr => ∃ k : Nat, k ≤ m ∧ i = .int .i64 k ∧ Hid (StI c g W2 wr S1 t D n (wrS cur2 (ws1.take k)) (T1 + k))) (fun i _ => m - (intOf i).toNat)
  case atStart => exact ⟨0, Nat.zero_le _, rfl, HI4⟩
  case round =>
    clear HI4
    obtain ⟨k, hk, rfl, HI⟩ := hrel
    by_cases hlt : k < m
    · have hkl : k < ws1.length := by have := HM.out; omega
      obtain ⟨S5, hx5, hc5, hg5⟩ := HI.out
      obtain ⟨_, b, off, rfl, hbl, f1, f2⟩ := wr_facts (HRow.out _ hc5) hlt
      have HOk := Lib.hid (HOf.out _ (List.getElem_mem hkl))
      have HTk := Lib.hid (wrS_take cur2 ws1 k hkl)
      have hz5 : (k : Int) < (m : Int) := by omega
      generalize ws1[k] = e at *
      have hba : Below wr.heap.size wr (wr.alloc (.cells #[.int .u64 (e.1 : Int), .int .u64 (e.2 : Int)] 130)) := (Below.refl _ wr).alloc (Nat.le_refl _) _
      have HX5 := Lib.hid (hx5.more_ hba)
      have HC5 := Lib.hid (hc5.below hba)
      have HG5 := Lib.hid hg5
      have HBv := Lib.hid (Blk.new wr 130 #[.int .u64 (e.1 : Int), .int .u64 (e.2 : Int)])
      have HTb : Hid (T1 + k < 1000000000) := Lib.hid (by have := HT1.out; omega)
      clear hx5 hc5 hg5 hba HI
      go_wp2_with fail
      have HS1 : Hid (PlT g c.x.m (c.a.th 0) wr.heap.size e.1 e.2 (wr.alloc (.cells #[.int .u64 (e.1 : Int), .int .u64 (e.2 : Int)] 130)).drew) := Lib.hid (show PlT g c.x.m (c.a.th 0) wr.heap.size e.1 e.2 (wr.alloc (.cells #[.int .u64 (e.1 : Int), .int .u64 (e.2 : Int)] 130)) from ⟨HX5.out.tx.cell 6, HX5.out.base.sys.m.cell 0, HBv.out.cell 0, HBv.out.cell 1⟩)
      refine wp_region_script (PlT g c.x.m (c.a.th 0) wr.heap.size e.1 e.2) 11 [(true, 0), (true, 1), (true, 2), (true, 3), (true, 4), (true, 5), (true, 6), (true, 7), (true, 8), (true, 9), (true, 10)] (by kernel_rfl) (by kernel_rfl) HS1.out ?_
      refine wpScript_take (.pointer (some ⟨g, 0, none⟩)) (by rfl) (by rfl) (fun w' hS => ?_) ?_
      · go_simp
      simp only [List.getElem_toArray, List.getElem_cons_zero, Act.put, List.setIfInBounds_toArray, List.set_cons_zero, List.set_cons_succ]
      refine wpScript_take (.pointer (some ⟨g, 0, none⟩)) (by rfl) (by rfl) (fun w' hS => ?_) ?_
      · go_simp
      simp only [List.getElem_toArray, List.getElem_cons_zero, List.getElem_cons_succ, Act.put, List.setIfInBounds_toArray, List.set_cons_zero, List.set_cons_succ]
      refine wpScript_take (.pointer (some ⟨g, 6, none⟩)) (by rfl) (by rfl) (fun w' hS => ?_) ?_
      · go_simp
      simp only [List.getElem_toArray, List.getElem_cons_zero, List.getElem_cons_succ, Act.put, List.setIfInBounds_toArray, List.set_cons_zero, List.set_cons_succ]
      refine wpScript_take (.pointer (some ⟨c.x.m, 0, none⟩)) (by rfl) (by rfl) (fun w' hS => ?_) ?_
      · have f1 := hS.1
        go_simp
      simp only [List.getElem_toArray, List.getElem_cons_zero, List.getElem_cons_succ, Act.put, List.setIfInBounds_toArray, List.set_cons_zero, List.set_cons_succ]
      refine wpScript_take (.pointer (some ⟨c.x.m, 0, none⟩)) (by rfl) (by rfl) (fun w' hS => ?_) ?_
      · go_simp
      simp only [List.getElem_toArray, List.getElem_cons_zero, List.getElem_cons_succ, Act.put, List.setIfInBounds_toArray, List.set_cons_zero, List.set_cons_succ]
      refine wpScript_take (.pointer (some ⟨c.x.m, 0, none⟩)) (by rfl) (by rfl) (fun w' hS => ?_) ?_
      · go_simp
      simp only [List.getElem_toArray, List.getElem_cons_zero, List.getElem_cons_succ, Act.put, List.setIfInBounds_toArray, List.set_cons_zero, List.set_cons_succ]
      refine wpScript_take (.pointer (some ⟨c.a.th 0, 0, none⟩)) (by rfl) (by rfl) (fun w' hS => ?_) ?_
      · have f1 := hS.2.1
        go_simp
      simp only [List.getElem_toArray, List.getElem_cons_zero, List.getElem_cons_succ, Act.put, List.setIfInBounds_toArray, List.set_cons_zero, List.set_cons_succ]
      refine wpScript_take (.pointer (some ⟨wr.heap.size, 0, none⟩)) (by rfl) (by rfl) (fun w' hS => ?_) ?_
      · go_simp
      simp only [List.getElem_toArray, List.getElem_cons_zero, List.getElem_cons_succ, Act.put, List.setIfInBounds_toArray, List.set_cons_zero, List.set_cons_succ]
      refine wpScript_take (.int .u64 (e.1 : Int)) (by rfl) (by rfl) (fun w' hS => ?_) ?_
      · have f1 := hS.2.2.1
        go_simp
      simp only [List.getElem_toArray, List.getElem_cons_zero, List.getElem_cons_succ, Act.put, List.setIfInBounds_toArray, List.set_cons_zero, List.set_cons_succ]
      refine wpScript_take (.pointer (some ⟨wr.heap.size, 1, none⟩)) (by rfl) (by rfl) (fun w' hS => ?_) ?_
      · go_simp
      simp only [List.getElem_toArray, List.getElem_cons_zero, List.getElem_cons_succ, Act.put, List.setIfInBounds_toArray, List.set_cons_zero, List.set_cons_succ]
      refine wpScript_take (.int .u64 (e.2 : Int)) (by rfl) (by rfl) (fun w' hS => ?_) ?_
      · have f1 := hS.2.2.2
        go_simp
      simp only [List.getElem_toArray, List.getElem_cons_zero, List.getElem_cons_succ, Act.put, List.setIfInBounds_toArray, List.set_cons_zero, List.set_cons_succ]
      show wpList _ _ _ _ _ _
      simp only [List.drop_succ_cons, List.drop_zero]
      have HXd := Lib.hid (HX5.out.more_ (Below.refl _ _).drew)
      have HCd := Lib.hid HC5.out.drew
      generalize (wr.alloc (.cells #[.int .u64 (e.1 : Int), .int .u64 (e.2 : Int)] 130)).drew = W6 at *
      clear HX5 HC5 HBv HS1 f1 f2
      go_wp2_with fail
      refine (store_dev HXd.out.base.dev e.1 e.2 HOk.out.al HOk.out.lt HTb.out).mono ?_
      intro e6 W7 h7
      obtain ⟨rfl, HI⟩ := StI.step HXd.out HCd.out HG5.out h7
      rw [← HTk.out] at HI
      have HI7 := Lib.hid HI
      clear HI h7 HXd HCd HG5
      go_wp2
      refine NoPanic.normal ?_
      go_wp2
      go_roundw
      case rel => exact ⟨k + 1, by omega, by go_num, HI7⟩
      case measure => simp [intOf]; omega
    · have hkm : k = ws1.length := by have := HM.out; omega
      have HF : Hid (StI c g w wr S t D n (plC cur ws D ks) (T + 500)) := Lib.hid (by
        obtain ⟨S', hx, hc, hg⟩ := StI.trans HC2.out HG1.out HI.out
        refine ⟨S', ?_, hc, hg⟩
        have e1 : wrS cur2 (ws1.take k) = plC cur ws D ks := by
          rw [List.take_of_length_le (by omega), ← HCe.out]
          unfold plC
          rw [HW1.out]
          rfl
        rw [← e1]
        exact hx.moreT (by have := HT1.out; omega) (by omega))
      obtain ⟨S5, hx5, hc5, hg5⟩ := HI.out
      have HSo := Lib.hid (sortU0 wr t.inner hx5.maps.inner)
      have k1 : wr.cell? ⟨g, 1, none⟩ = some (.map (some t.inner)) := hx5.tx.cell 1
      have HX5 := Lib.hid hx5
      clear hx5 hc5 hg5 HI
      go_wp2_with (first
        | (go_at_call 58; refine (keysU_any _ _).mono ?_; rintro e w1 ⟨rfl, rfl⟩)
        | (go_at_call 57; refine stop ?_))
      unfold Stop
      refine HSo.out.mono ?_
      rintro e W5 ⟨⟨A5, c5, rfl⟩, hb5⟩
      have hb : Below wr.heap.size wr W5 := ((Below.refl _ wr).alloc (Nat.le_refl _) _).trans (hb5.mono (by simp))
      have HX6 := Lib.hid (HX5.out.more_ hb)
      have HF5 := Lib.hid (HF.out.below hb)
      have k6 : W5.cell? ⟨g, 6, none⟩ = some (.pointer (some ⟨c.x.m, 0, none⟩)) := HX6.out.tx.cell 6
      have k0 : W5.cell? ⟨c.x.m, 0, none⟩ = some (.pointer (some ⟨c.a.th 0, 0, none⟩)) := HX6.out.base.sys.m.cell 0
      have HE := Lib.hid (err_dev HX6.out.base.dev (j := 0) (by omega))
      clear hb hb5 k1 HSo HX5 HF
      go_wp2
      refine wp_loop_rounds 1 ?_
      rw [rounds_succ]
      go_wp2_with fail
      refine HE.out.mono ?_
      rintro e W6 ⟨rfl, rfl⟩
      go_wp2
      go_ret
      exact ⟨ks, HP.out, rfl, HF5.out⟩
end Go.Proofs.YtklpeghhgoeeiaaGreatDoor
