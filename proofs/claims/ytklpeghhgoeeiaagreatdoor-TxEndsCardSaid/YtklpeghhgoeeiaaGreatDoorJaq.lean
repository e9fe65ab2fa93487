/- The walks and laws that the claim leans on, part 17: each part says ahead of its lines what it holds. -/
import Derived.Test.YtklpeghhgoeeiaaGreatDoorJap
/- tx: offsets, placed: the words of a state. -/
namespace Go.Proofs.YtklpeghhgoeeiaaGreatDoor
open Go.RowKit Go.Maps Go.Shelf
theorem sortCell (W : World) (b n : Nat) (D : DataW Unit) (ho : W.ownsMap Tryz.prog 35 cellR b n D) (hn : Maps.size D ≤ 12) :
    Calls Tryz.prog 57 #[.func (.func 231) #[] #[.pointer (some ⟨W.heap.size, 0, none⟩)]] (W.alloc (.cells #[.map (some b)] 95)) (RetU (W.alloc (.cells #[.map (some b)] 95)) (fun ys => ys.Perm (uKeys D))) :=
  sorted_any _ _ (enters_of Tryz.func231 (by kernel_rfl) rfl) (uKeys D) (Maps.size D) hn _ (keysCell_gives 9 W.heap.size b n D _ (by simp) ((Blk.new W 95 #[.map (some b)]).cell 0) (ho.alloc _) (by omega))
/-- A changed word's value, its old one, whether this lies in the log. -/
def cDec : DataW Unit → Nat × Nat × Bool
  | .agg [.lit (.int _ a), .lit (.int _ b), .lit (.bool c)] => (a.toNat, b.toNat, c)
  | _ => (0, 0, false)
theorem cDec_mk (v o : Nat) (p : Bool) : cDec (cellD v o p) = (v, o, p) := by simp [cDec, cellD]
def cAt (D : DataW Unit) (o : Nat) : Nat × Nat × Bool := cDec (D.atKey (kU o) (cellD 0 0 false))
theorem look_at {w : World} {b n : Nat} {D : DataW Unit} (h : w.ownsMap Tryz.prog 35 cellR b n D) {o : Nat} (ho : o < 18446744073709551616) :
    (Instr.lookup 95 (.map (some b)) (.int .u64 (o : Int)) true).run Tryz.prog w = .ok (.tuple #[cellV (cAt D o).1 (cAt D o).2.1 (cAt D o).2.2, .bool (has D (kU o))]) w := by
  obtain ⟨v, x, p, h1, h2⟩ := look_cell h ho
  unfold cAt
  rw [h1, h2, cDec_mk]
theorem look_at1 {w : World} {b n : Nat} {D : DataW Unit} (h : w.ownsMap Tryz.prog 35 cellR b n D) {o : Nat} (ho : o < 18446744073709551616) :
    (Instr.lookup 95 (.map (some b)) (.int .u64 (o : Int)) false).run Tryz.prog w = .ok (cellV (cAt D o).1 (cAt D o).2.1 (cAt D o).2.2) w := by
  obtain ⟨v, ps, hrun, hv⟩ := h.lookup keyedU Tryz.underlying95 (z := cellV 0 0 false) (by kernel_rfl) (cellR_mk 0 0 false) (keyU ho)
  obtain ⟨a, b, p, rfl, hz⟩ := cellR_inv hv
  unfold cAt
  rw [hrun, show D.atKey (kU o) (cellD 0 0 false) = cellD a b p from congrArg Prod.fst hz, cDec_mk]
/-- A key of the map is a word. -/
theorem key_lt {w : World} {b n : Nat} {D : DataW Unit} {R : Value → Option (DataW Unit × List MemPlace)} (h : w.ownsMap Tryz.prog 35 R b n D) {o : Nat} (ho : o ∈ uKeys D) : o < 18446744073709551616 := by
  obtain ⟨es, hD, hpw, _⟩ := h.entries keyedU
  have hko : ∀ p ∈ es, KeysOf Tryz.prog 35 p.1 := by
    obtain ⟨es', clock, _, F, _, hD'⟩ := h
    rw [hD'] at hD
    injection hD with hD
    subst hD
    exact fun p hp => fit_keys F p (mem_sorted.1 hp)
  subst hD
  obtain ⟨p, hp, rfl⟩ := List.mem_map.1 ho
  obtain ⟨v, hv⟩ := hko p hp
  obtain ⟨x, _, hx, hlt⟩ := keyOf_u64 Tryz.underlying35 hv
  rw [hx]
  simpa [litNat] using hlt
/-- The words that lie in the log, with their old or their present values. -/
def plW (D : DataW Unit) (old : Bool) (ks : List Nat) : List (Nat × Nat) := ks.filterMap fun o => if (cAt D o).2.2 then some (o, if old then (cAt D o).2.1 else (cAt D o).1) else none
theorem plW_len (D : DataW Unit) (old : Bool) (ks : List Nat) : (plW D old ks).length ≤ ks.length := List.length_filterMap_le _ _
theorem plW_take (D : DataW Unit) (old : Bool) (ks : List Nat) (k : Nat) (hk : k < ks.length) : plW D old (ks.take (k + 1)) = plW D old (ks.take k) ++ (if (cAt D ks[k]).2.2 then [(ks[k], if old then (cAt D ks[k]).2.1 else (cAt D ks[k]).1)] else []) := by
  unfold plW
  rw [takeS _ _ hk, List.filterMap_append]
  congr 1
  by_cases h : (cAt D ks[k]).2.2 = true <;> simp [h]
set_option maxRecDepth 100000 in
set_option maxHeartbeats 2000000 in
theorem offsets_any (A : Option Addr) (n c : Nat) (ws : List (Nat × Nat)) (w : World) (h : Reads w w.heap.size 2 A n (wrCells ws)) (hn : n ≤ 1000) :
    Calls Tryz.prog 132 #[.slice A n c] w (RetU w (fun ys => ys = ws.map (·.1))) := by
  obtain ⟨i0, hi0, hz0, hz1, hz2⟩ := info_parts infoU64
  have hwl : ws.length = n := by have := h.1; rw [wrCells_len] at this; omega
  have HR := Lib.hid h
  have HO0 : Hid (w.ownsRow w.heap.size 35 1 (.slice none 0 0) 0 (uCells ((ws.take 0).map (·.1)))) := World.ownsRow_nil _ _ _ _
  have HB0 := Lib.hid (Below.refl w.heap.size w)
  have HWl := Lib.hid hwl
  clear h hwl
  go_enter Tryz.func132, Tryz.ntmps132
  go_wp2
  go_loopw [3, 8] (fun l i wr => ∃ (k : Nat) (A : Option Addr) (m c : Nat), k ≤ n ∧ i = .int .i64 k ∧ l = .slice A m c ∧ m ≤ k ∧ k ≤ m ∧ Hid (wr.ownsRow w.heap.size 35 1 (.slice A m c) m (uCells ((ws.take k).map (·.1)))) ∧ Hid (Below w.heap.size w wr)) (fun _ i _ => n - (intOf i).toNat)
  case atStart => exact ⟨0, _, _, _, Nat.zero_le _, rfl, rfl, Nat.le_refl _, Nat.le_refl _, HO0, HB0⟩
  case round =>
    clear HO0 HB0
    obtain ⟨k, A1, m, c1, hk, rfl, rfl, hm1, hm2, HO, H⟩ := hrel
    by_cases hlt : k < n
    · have hkl : k < ws.length := by have := HWl.out; omega
      have hz5 : (k : Int) < (n : Int) := by omega
      have hrw := HR.out.below H.out
      obtain ⟨_, b, off, rfl, hbl, f1, f2⟩ := wr_facts hrw hlt
      have HTS := Lib.hid (takeS ws k hkl)
      generalize ws[k] = e at *
      have HLE := Lib.hid H.out.size
      clear hrw
      go_wp2_with (at_builtin; refine stop ?_)
      unfold Stop
      have HR1 := Lib.hid (row_reads_at (wr.alloc (.cells #[.int .u64 (e.1 : Int), .int .u64 (e.2 : Int)] 130)) _ rfl [.int .u64 (e.1 : Int)] 1 1 35 _ rfl rfl)
      rw [World.size_alloc] at HR1
      refine wpList_app _ (.tmp 12) (.tmp 15) 57 rfl rfl w.heap.size 35 i0 _ 1 8 Tryz.underlying57 hi0 hz0 hz1 hz2 rfl (by omega) (.slice A1 m c1) m (uCells ((ws.take k).map (·.1))) rfl ((HO.out.alloc _).alloc _) (wr.heap.size + 1 + 1) (some ⟨wr.heap.size + 1, 0, none⟩) 1 1 [.int .u64 (e.1 : Int)] rfl HR1.out (by intro u hu; simp at hu; subst hu; rfl) (by unfold maxLen; omega) (by omega) (by have := HLE.out; simp; omega) ?_
      intro A3 n3 c3 w8 hn3 ho3 hg3 hb3
      have HO4 : Hid (w8.ownsRow w.heap.size 35 1 (.slice A3 n3 c3) n3 (uCells ((ws.take (k + 1)).map (·.1)))) := Lib.hid (by rw [HTS.out, List.map_append]; simpa [uCells] using ho3)
      have HB3 := Lib.hid (((H.out.alloc H.out.size _).alloc (by have := HLE.out; simp; omega) _).trans hb3)
      have b1 : n3 ≤ k + 1 := by omega
      have b2 : k + 1 ≤ n3 := by omega
      clear hn3 ho3 hg3 hb3
      go_wp2
      go_roundw
      case rel =>
        first
          | exact ⟨k + 1, _, _, _, by omega, by go_num, rfl, b1, b2, HO4, HB3⟩
          | (repeat apply Exists.intro
             refine ⟨?_, rfl⟩
             exact ⟨k + 1, _, _, _, by omega, by go_num, rfl, b1, b2, HO4, HB3⟩)
      case measure => simp [intOf]; omega
    · have hkN : k = n := by omega
      go_wp2
      go_ret
      have h := HO.out
      rw [List.take_of_length_le (by have := HWl.out; omega)] at h
      exact ⟨_, _, _, _, rfl, rfl, by have := HWl.out; simp; omega, h, H.out⟩
end Go.Proofs.YtklpeghhgoeeiaaGreatDoor
/- tx: placed: the words that lie in the log. -/
namespace Go.Proofs.YtklpeghhgoeeiaaGreatDoor
open Go.RowKit Go.Maps Go.Shelf
def RetPl (w : World) (D : DataW Unit) (old : Bool) (e : Ending) (w' : World) : Prop := ∃ ks, ks.Perm (uKeys D) ∧ RetWr w (plW D old ks) e w'
set_option maxRecDepth 100000 in
set_option maxHeartbeats 2000000 in
theorem placed_false (w : World) (a b c d : Nat) (x y : Bool) (D : DataW Unit) (n : Nat) (ho : w.ownsMap Tryz.prog 35 cellR a n D) (hsz : Maps.size D ≤ 12) :
    Calls Tryz.prog 130 #[stV a b c d x y, .bool false] w (RetPl w D false) := by
  obtain ⟨i0, hi0, hz0, hz1, hz2⟩ := info_parts infoWrite
  have HK := Lib.hid ho
  have HSo : Hid (∀ W, Below w.heap.size w W → Calls Tryz.prog 57 #[.func (.func 231) #[] #[.pointer (some ⟨W.heap.size, 0, none⟩)]] (W.alloc (.cells #[.map (some a)] 95)) (RetU (W.alloc (.cells #[.map (some a)] 95)) (fun ys => ys.Perm (uKeys D)))) := fun W hW => sortCell W a n D ((Chg.of_below (S := Fp.no) hW).map ho (fun h => h)) hsz
  clear ho
  unfold stV
  go_enter Tryz.func130, Tryz.ntmps130
  go_wp2_with (go_at_call 186; refine (keysCell_any _ _).mono ?_; rintro e w1 ⟨rfl, rfl⟩; refine stop ?_)
  unfold Stop
  have hbw : Below w.heap.size w (w.alloc (.cells #[.map (some a), .map (some b), .map (some c), .map (some d), .bool x, .bool y] 100)) := (Below.refl _ w).alloc (Nat.le_refl _) _
  have HS := Lib.hid (HSo.out _ hbw)
  have HBx := Lib.hid ((Blk.new w 100 #[.map (some a), .map (some b), .map (some c), .map (some d), .bool x, .bool y]).alloc (.cells #[.map (some a)] 95))
  have HB1 := Lib.hid (hbw.alloc hbw.size (.cells #[.map (some a)] 95))
  have HL1 : Hid (w.heap.size + 1 < ((w.alloc (.cells #[.map (some a), .map (some b), .map (some c), .map (some d), .bool x, .bool y] 100)).alloc (.cells #[.map (some a)] 95)).heap.size) := Lib.hid (by simp)
  rw [World.size_alloc] at HS
  clear HSo hbw
  generalize (w.alloc (.cells #[.map (some a), .map (some b), .map (some c), .map (some d), .bool x, .bool y] 100)).alloc (.cells #[.map (some a)] 95) = W at *
  go_wp2_with fail
  refine HS.out.mono ?_
  rintro e W1 ⟨A, N, c0, ys, rfl, hp, hN, hos, hb1⟩
  have HPm := Lib.hid hp
  have HR := Lib.hid (Reads.of_own hos)
  have HW := Lib.hid (HB1.out.trans (hb1.mono HB1.out.size))
  have HBx1 := Lib.hid (HBx.out.below hb1 HBx.out.lt)
  have HYl : Hid (N = ys.length) := Lib.hid hN
  have HLW : Hid (w.heap.size < W1.heap.size) := Lib.hid (by have := HL1.out; have := hb1.size; omega)
  have hN12 : N ≤ 100 := by
    have h1 := hp.length_eq
    have h2 : (uKeys D).length ≤ 12 := by
      obtain ⟨es, hD, _, _⟩ := HK.out.entries keyedU
      rw [hD] at hsz ⊢
      simpa [uKeys, Maps.size] using hsz
    omega
  clear hp hos hb1 HS HBx HB1 HL1 hN
  have HO0 : Hid (W1.ownsRow W1.heap.size 130 2 (.slice none 0 0) 0 (wrCells (plW D false (ys.take 0)))) := World.ownsRow_nil _ _ _ _
  have HB0 : Hid (Below W1.heap.size W1 W1) := Lib.hid (Below.refl _ _)
  go_wp2
  go_loopw [5, 14] (fun l i wr => ∃ (k : Nat) (A : Option Addr) (m c : Nat), k ≤ N ∧ i = .int .i64 k ∧ l = .slice A m c ∧ m ≤ k ∧ Hid (m = (plW D false (ys.take k)).length) ∧ Hid (wr.ownsRow W1.heap.size 130 2 (.slice A m c) m (wrCells (plW D false (ys.take k)))) ∧ Hid (Below W1.heap.size W1 wr)) (fun _ i _ => N - (intOf i).toNat)
  case atStart => exact ⟨0, _, _, _, Nat.zero_le _, rfl, rfl, Nat.le_refl _, rfl, HO0, HB0⟩
  case round =>
    clear HO0 HB0
    obtain ⟨k, A1, m, c1, hk, rfl, rfl, hmk, HLn, HO, H2⟩ := hrel
    have H := Lib.hid (HW.out.trans (H2.out.mono HW.out.size))
    by_cases hlt : k < N
    · have hkl : k < ys.length := by have := HYl.out; omega
      have hz5 : (k : Int) < (N : Int) := by omega
      obtain ⟨_, b0, off, rfl, hbl, f1⟩ := u_facts (HR.out.below H2.out) hlt
      have k0 : wr.cell? ⟨w.heap.size, 0, none⟩ = some (.map (some a)) := (HBx1.out.below H2.out HLW.out).cell 0
      have hlk := look_at1 ((Chg.of_below (S := Fp.no) H.out).map HK.out (fun h => h)) (o := ys[k]) (key_lt HK.out (HPm.out.mem_iff.1 (List.getElem_mem hkl)))
      have HTS := Lib.hid (plW_take D false ys k hkl)
      generalize cAt D ys[k] = z at *
      obtain ⟨v1, x1, p1⟩ := z
      simp only [] at hlk HTS
      unfold cellV at hlk
      generalize ys[k] = o at *
      have HLE := Lib.hid H2.out.size
      cases p1
      · have HO4 : Hid ((wr.alloc (.cells #[.int .u64 (v1 : Int), .int .u64 (x1 : Int), .bool false] 107)).ownsRow W1.heap.size 130 2 (.slice A1 m c1) m (wrCells (plW D false (ys.take (k + 1))))) := Lib.hid (by rw [HTS.out]; simpa using HO.out.alloc _)
        have HL3 : Hid (m = (plW D false (ys.take (k + 1))).length) := Lib.hid (by rw [HTS.out, ← HLn.out.symm]; simp)
        have HB3 : Hid (Below W1.heap.size W1 (wr.alloc (.cells #[.int .u64 (v1 : Int), .int .u64 (x1 : Int), .bool false] 107))) := Lib.hid (H2.out.alloc H2.out.size _)
        go_wp2
        go_roundw
        case rel =>
          first
            | exact ⟨k + 1, _, _, _, by omega, by go_num, rfl, by omega, HL3, HO4, HB3⟩
            | (repeat apply Exists.intro
               refine ⟨?_, rfl⟩
               exact ⟨k + 1, _, _, _, by omega, by go_num, rfl, by omega, HL3, HO4, HB3⟩)
        case measure => simp [intOf]; omega
      · simp only [↓reduceIte, Bool.false_eq_true] at HTS
        go_wp2_with (at_builtin; refine stop ?_)
        unfold Stop
        have HR1 := Lib.hid (row_reads_at (wr.alloc (.cells #[.int .u64 (v1 : Int), .int .u64 (x1 : Int), .bool true] 107)) _ rfl [.int .u64 (o : Int), .int .u64 (v1 : Int)] 1 2 130 _ rfl rfl)
        rw [World.size_alloc] at HR1
        refine wpList_app _ (.tmp 22) (.tmp 27) 120 rfl rfl W1.heap.size 130 i0 _ 2 16 Tryz.underlying120 hi0 hz0 hz1 hz2 rfl (by omega) (.slice A1 m c1) m (wrCells (plW D false (ys.take k))) rfl ((HO.out.alloc _).alloc _) (wr.heap.size + 1 + 1) (some ⟨wr.heap.size + 1, 0, none⟩) 1 1 [.int .u64 (o : Int), .int .u64 (v1 : Int)] rfl HR1.out (u64s_one _ _) (by unfold maxLen; omega) (by omega) (by have := HLE.out; simp; omega) ?_
        intro A3 n3 c3 w8 hn3 ho3 hg3 hb3
        have HO4 : Hid (w8.ownsRow W1.heap.size 130 2 (.slice A3 n3 c3) n3 (wrCells (plW D false (ys.take (k + 1))))) := Lib.hid (by rw [HTS.out, wrCells_snoc]; exact ho3)
        have HB3 := Lib.hid (((H2.out.alloc H2.out.size _).alloc (by have := HLE.out; simp; omega) _).trans hb3)
        have b1 : n3 ≤ m + 1 := by omega
        have b2 : m + 1 ≤ n3 := by omega
        have HL3 : Hid (m + 1 = (plW D false (ys.take (k + 1))).length) := Lib.hid (by rw [HTS.out, List.length_append, ← HLn.out]; simp)
        have HN3 : Hid (n3 = m + 1) := Lib.hid (by omega)
        clear hn3 ho3 hg3 hb3
        go_wp2
        go_roundw
        case rel =>
          first
            | exact ⟨k + 1, _, _, _, by omega, by go_num, rfl, by omega, Lib.hid (HN3.out.trans HL3.out), HO4, HB3⟩
            | (repeat apply Exists.intro
               refine ⟨?_, rfl⟩
               exact ⟨k + 1, _, _, _, by omega, by go_num, rfl, by omega, Lib.hid (HN3.out.trans HL3.out), HO4, HB3⟩)
        case measure => simp [intOf]; omega
    · have hkN : k = N := by omega
      go_wp2
      go_ret
      have h := HO.out
      have hl := HLn.out
      rw [List.take_of_length_le (by have := HYl.out; omega)] at h hl
      exact ⟨ys, HPm.out, _, _, _, rfl, hl, own_le h HW.out.size, H.out⟩
set_option maxRecDepth 100000 in
set_option maxHeartbeats 2000000 in
theorem placed_true (w : World) (a b c d : Nat) (x y : Bool) (D : DataW Unit) (n : Nat) (ho : w.ownsMap Tryz.prog 35 cellR a n D) (hsz : Maps.size D ≤ 12) :
    Calls Tryz.prog 130 #[stV a b c d x y, .bool true] w (RetPl w D true) := by
  obtain ⟨i0, hi0, hz0, hz1, hz2⟩ := info_parts infoWrite
  have HK := Lib.hid ho
  have HSo : Hid (∀ W, Below w.heap.size w W → Calls Tryz.prog 57 #[.func (.func 231) #[] #[.pointer (some ⟨W.heap.size, 0, none⟩)]] (W.alloc (.cells #[.map (some a)] 95)) (RetU (W.alloc (.cells #[.map (some a)] 95)) (fun ys => ys.Perm (uKeys D)))) := fun W hW => sortCell W a n D ((Chg.of_below (S := Fp.no) hW).map ho (fun h => h)) hsz
  clear ho
  unfold stV
  go_enter Tryz.func130, Tryz.ntmps130
  go_wp2_with (go_at_call 186; refine (keysCell_any _ _).mono ?_; rintro e w1 ⟨rfl, rfl⟩; refine stop ?_)
  unfold Stop
  have hbw : Below w.heap.size w (w.alloc (.cells #[.map (some a), .map (some b), .map (some c), .map (some d), .bool x, .bool y] 100)) := (Below.refl _ w).alloc (Nat.le_refl _) _
  have HS := Lib.hid (HSo.out _ hbw)
  have HBx := Lib.hid ((Blk.new w 100 #[.map (some a), .map (some b), .map (some c), .map (some d), .bool x, .bool y]).alloc (.cells #[.map (some a)] 95))
  have HB1 := Lib.hid (hbw.alloc hbw.size (.cells #[.map (some a)] 95))
  have HL1 : Hid (w.heap.size + 1 < ((w.alloc (.cells #[.map (some a), .map (some b), .map (some c), .map (some d), .bool x, .bool y] 100)).alloc (.cells #[.map (some a)] 95)).heap.size) := Lib.hid (by simp)
  rw [World.size_alloc] at HS
  clear HSo hbw
  generalize (w.alloc (.cells #[.map (some a), .map (some b), .map (some c), .map (some d), .bool x, .bool y] 100)).alloc (.cells #[.map (some a)] 95) = W at *
  go_wp2_with fail
  refine HS.out.mono ?_
  rintro e W1 ⟨A, N, c0, ys, rfl, hp, hN, hos, hb1⟩
  have HPm := Lib.hid hp
  have HR := Lib.hid (Reads.of_own hos)
  have HW := Lib.hid (HB1.out.trans (hb1.mono HB1.out.size))
  have HBx1 := Lib.hid (HBx.out.below hb1 HBx.out.lt)
  have HYl : Hid (N = ys.length) := Lib.hid hN
  have HLW : Hid (w.heap.size < W1.heap.size) := Lib.hid (by have := HL1.out; have := hb1.size; omega)
  have hN12 : N ≤ 100 := by
    have h1 := hp.length_eq
    have h2 : (uKeys D).length ≤ 12 := by
      obtain ⟨es, hD, _, _⟩ := HK.out.entries keyedU
      rw [hD] at hsz ⊢
      simpa [uKeys, Maps.size] using hsz
    omega
  clear hp hos hb1 HS HBx HB1 HL1 hN
  have HO0 : Hid (W1.ownsRow W1.heap.size 130 2 (.slice none 0 0) 0 (wrCells (plW D true (ys.take 0)))) := World.ownsRow_nil _ _ _ _
  have HB0 : Hid (Below W1.heap.size W1 W1) := Lib.hid (Below.refl _ _)
  go_wp2
  go_loopw [5, 14] (fun l i wr => ∃ (k : Nat) (A : Option Addr) (m c : Nat), k ≤ N ∧ i = .int .i64 k ∧ l = .slice A m c ∧ m ≤ k ∧ Hid (m = (plW D true (ys.take k)).length) ∧ Hid (wr.ownsRow W1.heap.size 130 2 (.slice A m c) m (wrCells (plW D true (ys.take k)))) ∧ Hid (Below W1.heap.size W1 wr)) (fun _ i _ => N - (intOf i).toNat)
  case atStart => exact ⟨0, _, _, _, Nat.zero_le _, rfl, rfl, Nat.le_refl _, rfl, HO0, HB0⟩
  case round =>
    clear HO0 HB0
    obtain ⟨k, A1, m, c1, hk, rfl, rfl, hmk, HLn, HO, H2⟩ := hrel
    have H := Lib.hid (HW.out.trans (H2.out.mono HW.out.size))
    by_cases hlt : k < N
    · have hkl : k < ys.length := by have := HYl.out; omega
      have hz5 : (k : Int) < (N : Int) := by omega
      obtain ⟨_, b0, off, rfl, hbl, f1⟩ := u_facts (HR.out.below H2.out) hlt
      have k0 : wr.cell? ⟨w.heap.size, 0, none⟩ = some (.map (some a)) := (HBx1.out.below H2.out HLW.out).cell 0
      have hlk := look_at1 ((Chg.of_below (S := Fp.no) H.out).map HK.out (fun h => h)) (o := ys[k]) (key_lt HK.out (HPm.out.mem_iff.1 (List.getElem_mem hkl)))
      have HTS := Lib.hid (plW_take D true ys k hkl)
      generalize cAt D ys[k] = z at *
      obtain ⟨v1, x1, p1⟩ := z
      simp only [] at hlk HTS
      unfold cellV at hlk
      generalize ys[k] = o at *
      have HLE := Lib.hid H2.out.size
      cases p1
      · have HO4 : Hid ((wr.alloc (.cells #[.int .u64 (v1 : Int), .int .u64 (x1 : Int), .bool false] 107)).ownsRow W1.heap.size 130 2 (.slice A1 m c1) m (wrCells (plW D true (ys.take (k + 1))))) := Lib.hid (by rw [HTS.out]; simpa using HO.out.alloc _)
        have HL3 : Hid (m = (plW D true (ys.take (k + 1))).length) := Lib.hid (by rw [HTS.out, ← HLn.out.symm]; simp)
        have HB3 : Hid (Below W1.heap.size W1 (wr.alloc (.cells #[.int .u64 (v1 : Int), .int .u64 (x1 : Int), .bool false] 107))) := Lib.hid (H2.out.alloc H2.out.size _)
        go_wp2
        go_roundw
        case rel =>
          first
            | exact ⟨k + 1, _, _, _, by omega, by go_num, rfl, by omega, HL3, HO4, HB3⟩
            | (repeat apply Exists.intro
               refine ⟨?_, rfl⟩
               exact ⟨k + 1, _, _, _, by omega, by go_num, rfl, by omega, HL3, HO4, HB3⟩)
        case measure => simp [intOf]; omega
      · simp only [↓reduceIte] at HTS
        go_wp2_with (at_builtin; refine stop ?_)
        unfold Stop
        have HR1 := Lib.hid (row_reads_at (wr.alloc (.cells #[.int .u64 (v1 : Int), .int .u64 (x1 : Int), .bool true] 107)) _ rfl [.int .u64 (o : Int), .int .u64 (x1 : Int)] 1 2 130 _ rfl rfl)
        rw [World.size_alloc] at HR1
        refine wpList_app _ (.tmp 35) (.tmp 40) 120 rfl rfl W1.heap.size 130 i0 _ 2 16 Tryz.underlying120 hi0 hz0 hz1 hz2 rfl (by omega) (.slice A1 m c1) m (wrCells (plW D true (ys.take k))) rfl ((HO.out.alloc _).alloc _) (wr.heap.size + 1 + 1) (some ⟨wr.heap.size + 1, 0, none⟩) 1 1 [.int .u64 (o : Int), .int .u64 (x1 : Int)] rfl HR1.out (u64s_one _ _) (by unfold maxLen; omega) (by omega) (by have := HLE.out; simp; omega) ?_
        intro A3 n3 c3 w8 hn3 ho3 hg3 hb3
        have HO4 : Hid (w8.ownsRow W1.heap.size 130 2 (.slice A3 n3 c3) n3 (wrCells (plW D true (ys.take (k + 1))))) := Lib.hid (by rw [HTS.out, wrCells_snoc]; exact ho3)
        have HB3 := Lib.hid (((H2.out.alloc H2.out.size _).alloc (by have := HLE.out; simp; omega) _).trans hb3)
        have b1 : n3 ≤ m + 1 := by omega
        have b2 : m + 1 ≤ n3 := by omega
        have HL3 : Hid (m + 1 = (plW D true (ys.take (k + 1))).length) := Lib.hid (by rw [HTS.out, List.length_append, ← HLn.out]; simp)
        have HN3 : Hid (n3 = m + 1) := Lib.hid (by omega)
        clear hn3 ho3 hg3 hb3
        go_wp2
        go_roundw
        case rel =>
          first
            | exact ⟨k + 1, _, _, _, by omega, by go_num, rfl, by omega, Lib.hid (HN3.out.trans HL3.out), HO4, HB3⟩
            | (repeat apply Exists.intro
               refine ⟨?_, rfl⟩
               exact ⟨k + 1, _, _, _, by omega, by go_num, rfl, by omega, Lib.hid (HN3.out.trans HL3.out), HO4, HB3⟩)
        case measure => simp [intOf]; omega
    · have hkN : k = N := by omega
      go_wp2
      go_ret
      have h := HO.out
      have hl := HLn.out
      rw [List.take_of_length_le (by have := HYl.out; omega)] at h hl
      exact ⟨ys, HPm.out, _, _, _, rfl, hl, own_le h HW.out.size, H.out⟩
end Go.Proofs.YtklpeghhgoeeiaaGreatDoor
