/- The walks and laws that the claim leans on, part 25: each part says ahead of its lines what it holds. -/
import Derived.Test.YtklpeghhgoeeiaaGreatDoorKax
import Derived.Deep.RegionWith
import Derived.Lib.EndianBits
/- redo: Plan over an idle log. -/
namespace Go.Proofs.YtklpeghhgoeeiaaGreatDoor
open Go.RowKit Go.Maps
/-- The program of a commit. -/
def IsRedo (s : Nat) (ws : List (Nat × Nat)) (p : List Ins) : Prop := (ws = [] ∧ p = []) ∨ (ws ≠ [] ∧ ∃ cm p1 p2 p3, cm < 18446744073709551616 ∧ IsStores (entW (64 * s) 0 ws) p1 ∧ IsStores [(64 * s, cm)] p2 ∧ IsTwo ws [(64 * s, 0)] p3 ∧ p = p1 ++ p2 ++ p3)
def flatW : List (Nat × Nat) → List Nat
  | [] => []
  | e :: l => e.1 :: e.2 :: flatW l
theorem flatW_snoc : ∀ (l : List (Nat × Nat)) (e : Nat × Nat), flatW (l ++ [e]) = flatW l ++ [e.1, e.2]
  | [], e => rfl
  | x :: l, e => by
    have := flatW_snoc l e
    simp [flatW, this]
theorem flatW_mem : ∀ (l : List (Nat × Nat)) (x : Nat), x ∈ flatW l → ∃ e ∈ l, x = e.1 ∨ x = e.2
  | [], x, h => by simp [flatW] at h
  | e :: l, x, h => by
    simp only [flatW, List.mem_cons] at h
    rcases h with h | h | h
    · exact ⟨e, by simp, .inl h⟩
    · exact ⟨e, by simp, .inr h⟩
    · obtain ⟨y, hy, h2⟩ := flatW_mem l x h
      exact ⟨y, by simp [hy], h2⟩
set_option maxRecDepth 100000 in
set_option maxHeartbeats 2000000 in
theorem planR_any {a : DA} {L T : Nat} {w : World} {S : Fp} {cur : Nat → Nat} {F : Nat} (h : Dev a L T w S cur F) (g s n : Nat) (hB : Blk w g 246 (logCells a s n)) (hs : s + n ≤ L) (hn : 26 ≤ n)
    (A : Option Addr) (N c : Nat) (ws : List (Nat × Nat)) (hr : Reads w w.heap.size 2 A N (wrCells ws)) (hd : Diff ws) (ho : ∀ e ∈ ws, OffOk L s n e.1) (hv : ∀ e ∈ ws, e.2 < 18446744073709551616) (hN : N ≤ 96) (hidle : cur (8 * s) = 0) (ht : Tab w) :
    Calls Tryz.prog 197 #[.pointer (some ⟨g, 0, none⟩), .slice A N c] w (RetPlan w (IsRedo s ws)) := by
  have hL : L ≤ 4096 := by obtain ⟨ls, exe, per, cs, lsC, hdc, hnt⟩ := h; exact hdc.hL
  have HD := Lib.hid h
  have HBB := Lib.hid hB
  have HRo := Lib.hid hr
  obtain ⟨i0, hi0, hz0, hz1, hz2⟩ := info_parts infoWrite
  obtain ⟨j0, hj0, hy0, hy1, hy2⟩ := info_parts infoU64
  have HTb := Lib.hid ht
  have HVal : Hid (∀ e ∈ ws, e.1 < 18446744073709551616 ∧ e.2 < 18446744073709551616) := Lib.hid (fun e he => ⟨by have := (ho e he).lt; omega, hv e he⟩)
  have hz64 : 64 * s ≤ 1000000 := by omega
  have HLN := Lib.hid (show ws.length = N by have := hr.1; rw [wrCells_len] at this; omega)
  have f0 : w.cell? ⟨g, 0, none⟩ = some (memV a) := hB.cell 0
  have hq := eqMem (some ⟨a.th 0, 0, none⟩)
  have hmE := methErr (some ⟨a.th 0, 0, none⟩)
  have hmL := methLoad (some ⟨a.th 0, 0, none⟩)
  have hna := aheadLoad ⟨a.th 0, 0, none⟩
  have HLd : Hid (∀ W, Below w.heap.size w W → Calls Tryz.prog 19 #[.pointer (some ⟨a.th 0, 0, none⟩), .int .u64 ((64 * s : Nat) : Int)] W fun e w' => e = .returned (.int .u64 0) ∧ W = w') := Lib.hid (fun W hW => load_at h (64 * s) 0 (by omega) (by omega) (by rw [show 64 * s / 8 = 8 * s by omega]; exact hidle) W hW)
  have HV1 : Hid (∀ i (h : i < ws.length), (ws[i]).1 < 18446744073709551616) := Lib.hid (fun i hi => by have := (ho _ (List.getElem_mem hi)).lt; omega)
  have HAl : Hid (∀ k (hk : k < ws.length) W, Below w.heap.size w W → Calls Tryz.prog 216 #[.pointer (some ⟨g, 0, none⟩), .int .u64 ((ws[k]).1 : Int)] W fun e w' => e = .returned (.bool true) ∧ Below W.heap.size W w') := Lib.hid (fun k hk W hW =>
    allowedR_any (h.below hW) g s n (hB.below hW hB.lt) hs _ (ho _ (List.getElem_mem hk)))
  have HEr : Hid (∀ W, Below w.heap.size w W → Calls Tryz.prog 48 #[.pointer (some ⟨a.th 0, 0, none⟩)] W fun e w' => e = .returned (.int .i64 0) ∧ W = w') := Lib.hid (fun W hW => err_dev (h.below hW) (j := 0) (by omega))
  have HLa : Hid (∀ W, Below w.heap.size w W → Calls Tryz.prog 242 #[.slice A N c] W (RetWr W ws)) := Lib.hid (fun W hW => last_any A N c ws W ((hr.below hW).more hW.size) hd HV1.out (by omega))
  have HB0 : Hid (Below w.heap.size w w) := Below.refl _ _
  clear h hB hr ho hd
  unfold memV at *
  go_enter Tryz.func197, Tryz.ntmps197
  go_wp2
  go_loopw [29] (fun i wr => ∃ (k : Nat), k ≤ N ∧ i = .int .i64 k ∧ Hid (Below w.heap.size w wr)) (fun i _ => N - (Go.RowKit.intOf i).toNat)
  case atStart => exact ⟨0, Nat.zero_le _, rfl, HB0⟩
  case round =>
    clear HB0
    obtain ⟨k, hk, rfl, H⟩ := hrel
    by_cases hlt : k < N
    · obtain ⟨hkl, b, off, hA, hbB, q0, q1⟩ := wr_facts (HRo.out.below H.out) hlt
      subst hA
      have hz5 : (0 : Int) ≤ (k : Int) := by omega
      have hz6 : (k : Int) < (N : Int) := by omega
      have hba : Below w.heap.size w (wr.alloc (.cells #[.int .u64 ((ws[k]).1 : Int), .int .u64 ((ws[k]).2 : Int)] 130)) := H.out.alloc H.out.size _
      have HA := Lib.hid (HAl.out k hkl _ hba)
      have HBa := Lib.hid hba
      clear hba
      generalize ws[k] = o at *
      go_wp2_with fail
      refine HA.out.mono ?_
      rintro e1 w2 ⟨rfl, hb2⟩
      have HB2 := Lib.hid (HBa.out.trans (hb2.mono HBa.out.size))
      clear hb2 HA H HBa
      go_wp2
      go_roundw
      case rel =>
        first
          | exact ⟨k + 1, by omega, by go_num, HB2⟩
          | (repeat apply Exists.intro
             refine ⟨?_, rfl⟩
             exact ⟨k + 1, by omega, by go_num, HB2⟩)
      case measure => simp [Go.RowKit.intOf]; omega
    · have hkN : k = N := by omega
      subst hkN
      clear HAl
      go_wp2_with fail
      refine (HLa.out wr H.out).mono ?_
      rintro e1 w1 ⟨A1, m1, c1, rfl, hm1, ho1, hb1⟩
      have HB1 := Lib.hid (H.out.trans (hb1.mono H.out.size))
      have HO1 := Lib.hid ho1
      have hmk : m1 = k := by have := HLN.out; omega
      subst hmk
      have g0 : w1.cell? ⟨g, 0, none⟩ = some (.iface 53 (.pointer (some ⟨a.th 0, 0, none⟩))) := (HBB.out.below HB1.out HBB.out.lt).cell 0
      have g1 : w1.cell? ⟨g, 1, none⟩ = some (.int .u64 ((64 * s : Nat) : Int)) := (HBB.out.below HB1.out HBB.out.lt).cell 1
      have HE1 := Lib.hid (HEr.out w1 HB1.out)
      clear hm1 ho1 hb1 HLa H
      go_wp2_with fail
      refine HE1.out.mono ?_
      rintro e w2 ⟨rfl, rfl⟩
      have HB1d := Lib.hid (below_drewN HB1.out 1)
      generalize hz : 64 * s = z at *
      have HZ := Lib.hid hz
      clear hz
      go_wp2_with fail
      go_cut [10] from 18 to 132 (fun v wx => v = .int .u64 0 ∧ Hid (Below w1.heap.size w1 wx))
      case first =>
        go_region_with (go_at_call 19; refine (HLd.out _ HB1d.out).mono ?_; rintro e w3 ⟨rfl, rfl⟩)
        all_goals (go_wp2_with fail; go_meet; exact ⟨rfl, (Below.refl _ w1).drew⟩)
      case rest =>
        obtain ⟨rfl, HW⟩ := hcut
        rename World => wz
        have HBz := Lib.hid (HB1.out.trans (HW.out.mono HB1.out.size))
        have HE2 := Lib.hid (HEr.out wz HBz.out)
        have HOz := Lib.hid (own_below HO1.out HW.out)
        clear HW HE1 HB1d HLd
        have hBk := HBB.out.below HBz.out HBB.out.lt
        have d0 : wz.cell? ⟨g, 0, none⟩ = some (.iface 53 (.pointer (some ⟨a.th 0, 0, none⟩))) := hBk.cell 0
        have d1 : wz.cell? ⟨g, 1, none⟩ = some (.int .u64 (z : Int)) := by rw [← HZ.out]; exact hBk.cell 1
        clear hBk g0 g1
        rcases Nat.eq_zero_or_pos m1 with h0 | h0
        · subst h0
          have hws : ws = [] := List.eq_nil_of_length_eq_zero HLN.out
          go_wp2_with fail
          refine HE2.out.mono ?_
          rintro e w2 ⟨rfl, rfl⟩
          go_wp2
          go_ret2
          exact ⟨_, _, _, [], rfl, .inl ⟨hws, rfl⟩, World.ownsRow_nil _ _ _ _, HBz.out⟩
        · have e9 : ((m1 : Int) == 0) = false := by rw [beq_eq_false_iff_ne]; omega
          have hrd := Lib.hid ((Reads.of_own HOz.out).more (Nat.le_refl _))
          have HO0 : Hid (wz.ownsRow wz.heap.size 130 2 (.slice none 0 0) 0 (wrCells (entW z 0 (ws.take 0)))) := World.ownsRow_nil _ _ _ _
          have HU0 : Hid (wz.ownsRow wz.heap.size 35 1 (.slice none 0 0) 0 (uCells (flatW (ws.take 0)))) := World.ownsRow_nil _ _ _ _
          have HQ0 : Hid (Below wz.heap.size wz wz) := Below.refl _ _
          clear hidle
          go_wp2_with fail
          refine HE2.out.mono ?_
          rintro e w2 ⟨rfl, rfl⟩
          clear HE2 hmE
          go_wp2
          go_loopw [12, 13, 78] (fun l u i wr => ∃ (t : Nat) (A2 : Option Addr) (m2 c2 : Nat) (A3 : Option Addr) (m3 c3 : Nat), t ≤ m1 ∧ i = .int .i64 t ∧ l = .slice A2 m2 c2 ∧ u = .slice A3 m3 c3 ∧ Hid (m2 = 2 * t ∧ m3 = 2 * t) ∧ Hid (wr.ownsRow wz.heap.size 130 2 (.slice A2 m2 c2) m2 (wrCells (entW z 0 (ws.take t)))) ∧ Hid (wr.ownsRow wz.heap.size 35 1 (.slice A3 m3 c3) m3 (uCells (flatW (ws.take t)))) ∧ Hid (Below wz.heap.size wz wr)) (fun _ _ i _ => m1 - (Go.RowKit.intOf i).toNat)
          case atStart => exact ⟨0, _, _, _, _, _, _, Nat.zero_le _, rfl, rfl, rfl, Lib.hid ⟨rfl, rfl⟩, HO0, HU0, HQ0⟩
          case round =>
            clear HO0 HU0 HQ0
            obtain ⟨t, A2, m2, c2, A3, m3, c3, ht, rfl, rfl, rfl, HM, HO, HU, HQ⟩ := hrel
            by_cases hlt4 : t < m1
            · obtain ⟨htl, b, off, hA, hbB, q0, q1⟩ := wr_facts (hrd.out.below HQ.out) hlt4
              subst hA
              have hz5 : (0 : Int) ≤ (t : Int) := by omega
              have hz6 : (t : Int) < (m1 : Int) := by omega
              have HTS := Lib.hid (takeS ws t htl)
              have HEn4 := Lib.hid (entW_snoc z (ws.take t) 0 (ws[t]))
              have HFl := Lib.hid (flatW_snoc (ws.take t) (ws[t]))
              rw [← HTS.out, show (ws.take t).length = t by simp; omega, Nat.zero_add] at HEn4
              rw [← HTS.out] at HFl
              generalize ws[t] = e at *
              have u1 : IntKind.u64.wrap ((z : Int) + 64) = ((z + 64 : Nat) : Int) := by rw [IntKind.wrap_u64]; omega
              have u2 : IntKind.u64.wrap (t : Int) = (t : Int) := by rw [IntKind.wrap_u64]; omega
              have u3 : IntKind.u64.wrap ((t : Int) * 16) = ((16 * t : Nat) : Int) := by rw [IntKind.wrap_u64]; omega
              have u4 : IntKind.u64.wrap (((z + 64 : Nat) : Int) + ((16 * t : Nat) : Int)) = ((z + 64 + 16 * t : Nat) : Int) := by rw [IntKind.wrap_u64]; omega
              have u5 : IntKind.u64.wrap (((z + 64 + 16 * t : Nat) : Int) + 8) = ((z + 64 + 16 * t + 8 : Nat) : Int) := by rw [IntKind.wrap_u64]; omega
              have hmm2 := HM.out.1
              have hmm3 := HM.out.2
              subst hmm2
              subst hmm3
              have HBk := Lib.hid (Blk.new wr 130 #[.int .u64 (e.1 : Int), .int .u64 (e.2 : Int)])
              have HOa := Lib.hid (HO.out.alloc (.cells #[.int .u64 (e.1 : Int), .int .u64 (e.2 : Int)] 130))
              have HUa := Lib.hid (HU.out.alloc (.cells #[.int .u64 (e.1 : Int), .int .u64 (e.2 : Int)] 130))
              have HQa := Lib.hid (HQ.out.alloc HQ.out.size (.cells #[.int .u64 (e.1 : Int), .int .u64 (e.2 : Int)] 130))
              have HNE : Hid (∀ g', (Value.slice A2 (2 * t) c2).ownBlock = some g' → g' < wr.heap.size) := fun g' hg' => (HO.out.lt g' hg').2
              have f1 : wr.cell? ⟨g, 1, none⟩ = some (.int .u64 (z : Int)) := (World.cell?_of_block (HQ.out.block g (by have := HBB.out.below HBz.out HBB.out.lt; exact this.lt))).trans d1
              have hlg : g < wr.heap.size := by have h1 := (HBB.out.below HBz.out HBB.out.lt).lt; have h2 := HQ.out.size; omega
              clear HO HQ HU HM
              generalize z + 64 + 16 * t + 8 = y2 at *
              generalize z + 64 + 16 * t = y at *
              generalize z + 64 = x at *
              generalize 16 * t = q at *
              go_wp2_with (at_builtin; refine stop ?_)
              unfold Stop
              refine wpList_app2 _ (.tmp 92) (.tmp 97) 120 rfl rfl wz.heap.size 130 i0 _ 2 16 Tryz.underlying120 hi0 hz0 hz1 hz2 rfl (by omega) (.slice A2 (2 * t) c2) (2 * t) (wrCells (entW z 0 (ws.take t))) rfl (HOa.out.alloc _) (wr.heap.size + 1 + 1) (some ⟨wr.heap.size + 1, 0, none⟩) 1 1 [.int .u64 (y : Int), .int .u64 (e.1 : Int)] rfl (row_reads_at _ _ (by simp) _ 1 2 130 _ rfl rfl) (u64s_one _ _) (by unfold maxLen; omega) (by omega) (by have := HQa.out.size; simp; simp at this; omega) ?_
              intro A4 n4 c4 w5 hn4 ho4 hg4 hp4
              have hb4 : Below wz.heap.size _ w5 := (Below.refl _ _).grown hg4 (by have := HQa.out.size; simp; simp at this; omega) (fun j hj => (HOa.out.lt j hj).1)
              have hk5 := (HBk.out.alloc (.cells #[.int .u64 (y : Int), .int .u64 (e.1 : Int)] 130)).grown hg4 (fun e => by have := HNE.out _ e.symm; omega)
              have HBk5 := Lib.hid hk5
              have d5 : w5.cell? ⟨wr.heap.size, 1, none⟩ = some (.int .u64 (e.2 : Int)) := hk5.cell 1
              have HO5 := Lib.hid ho4
              have HU5 := Lib.hid ((HUa.out.alloc (.cells #[.int .u64 (y : Int), .int .u64 (e.1 : Int)] 130)).kept hg4 (own_own_ne HUa.out HOa.out (by decide)))
              have HQ5 := Lib.hid ((HQa.out.alloc HQa.out.size _).trans hb4)
              have HN5 : Hid (∀ g', (Value.slice A4 n4 c4).ownBlock = some g' → g' ≠ wr.heap.size) := Lib.hid (fun g' hg' e => by
                rcases hp4 with h | h
                · have := HNE.out g' (h.symm.trans hg'); omega
                · rw [h] at hg'; simp at hg'; omega)
              have hn4' : n4 = 2 * t + 1 := by omega
              subst hn4'
              have hl5 : wr.heap.size < w5.heap.size := hk5.lt
              clear hn4 ho4 hg4 hb4 hp4 hk5 HBk HOa HUa HQa HNE
              go_wp2_with (at_builtin; refine stop ?_)
              unfold Stop
              refine wpList_app _ (.tmp 99) (.tmp 105) 120 rfl rfl wz.heap.size 130 i0 _ 2 16 Tryz.underlying120 hi0 hz0 hz1 hz2 rfl (by omega) (.slice A4 (2 * t + 1) c4) (2 * t + 1) _ rfl (HO5.out.alloc _) (w5.heap.size + 1) (some ⟨w5.heap.size, 0, none⟩) 1 1 [.int .u64 (y2 : Int), .int .u64 (e.2 : Int)] rfl (row_reads_at _ _ rfl _ 1 2 130 _ rfl rfl) (u64s_one _ _) (by unfold maxLen; omega) (by omega) (by have := HQ5.out.size; simp; omega) ?_
              intro A5 n5 c5 w6 hn5 ho5 hg5 hb5
              have HO6 : Hid (w6.ownsRow wz.heap.size 130 2 (.slice A5 n5 c5) n5 (wrCells (entW z 0 (ws.take (t + 1))))) := Lib.hid (by rw [HEn4.out, show ∀ l : List (Nat × Nat), l ++ [(y, e.1), (y2, e.2)] = (l ++ [(y, e.1)]) ++ [(y2, e.2)] from fun l => by simp, wrCells_snoc, wrCells_snoc]; exact ho5)
              have HQ6 := Lib.hid ((HQ5.out.alloc HQ5.out.size _).trans hb5)
              have HU6 := Lib.hid ((HU5.out.alloc (.cells #[.int .u64 (y2 : Int), .int .u64 (e.2 : Int)] 130)).kept hg5 (own_own_ne HU5.out HO5.out (by decide)))
              have hk6 := (HBk5.out.alloc (.cells #[.int .u64 (y2 : Int), .int .u64 (e.2 : Int)] 130)).grown hg5 (fun e => HN5.out _ e.symm rfl)
              have d6 : w6.cell? ⟨wr.heap.size, 0, none⟩ = some (.int .u64 (e.1 : Int)) := hk6.cell 0
              have d7 : w6.cell? ⟨wr.heap.size, 1, none⟩ = some (.int .u64 (e.2 : Int)) := hk6.cell 1
              have hl6 : wr.heap.size < w6.heap.size := hk6.lt
              have HN6 : Hid (n5 = 2 * (t + 1)) := Lib.hid (by omega)
              clear hn5 ho5 hg5 hb5 hk6 HO5 HU5 HQ5 HBk5 HN5 d5
              go_wp2_with (at_builtin; refine stop ?_)
              unfold Stop
              refine wpList_app _ (.tmp 107) (.tmp 112) 57 rfl rfl wz.heap.size 35 j0 _ 1 8 Tryz.underlying57 hj0 hy0 hy1 hy2 rfl (by omega) (.slice A3 (2 * t) c3) (2 * t) _ rfl (HU6.out.alloc _) (w6.heap.size + 1) (some ⟨w6.heap.size, 0, none⟩) 2 2 [.int .u64 (e.1 : Int), .int .u64 (e.2 : Int)] rfl (row_reads_at _ _ rfl _ 2 1 35 _ rfl rfl) (u64s_one _ _) (by unfold maxLen; omega) (by omega) (by have := HQ6.out.size; simp; omega) ?_
              intro A6 n6 c6 w7 hn6 ho6 hg6 hb6
              have HU7 : Hid (w7.ownsRow wz.heap.size 35 1 (.slice A6 n6 c6) n6 (uCells (flatW (ws.take (t + 1))))) := Lib.hid (by rw [HFl.out]; show w7.ownsRow _ _ _ _ _ (uCells (flatW (ws.take t) ++ [e.1, e.2])); unfold uCells; rw [List.map_append]; exact ho6)
              have HO7 := Lib.hid ((HO6.out.alloc (.cells #[.int .u64 (e.1 : Int), .int .u64 (e.2 : Int)] 35)).kept hg6 (own_own_ne HO6.out HU6.out (by decide)))
              have HQ7 := Lib.hid ((HQ6.out.alloc HQ6.out.size _).trans hb6)
              have HM7 : Hid (n5 = 2 * (t + 1) ∧ n6 = 2 * (t + 1)) := Lib.hid ⟨HN6.out, by omega⟩
              clear hn6 ho6 hg6 hb6 HO6 HU6 HQ6 HN6 d6 d7
              go_wp2
              go_roundw
              case rel =>
                first
                  | exact ⟨t + 1, _, _, _, _, _, _, by omega, by go_num, rfl, rfl, HM7, HO7, HU7, HQ7⟩
                  | (repeat apply Exists.intro
                     refine ⟨?_, rfl⟩
                     exact ⟨t + 1, _, _, _, _, _, _, by omega, by go_num, rfl, rfl, HM7, HO7, HU7, HQ7⟩)
              case measure => simp [Go.RowKit.intOf]; omega
            · have htm : m1 = t := by omega
              subst htm
              have htk : ws.take m1 = ws := List.take_of_length_le (by have := HLN.out; omega)
              rw [htk] at HO HU
              have hmm2 := HM.out.1
              have hmm3 := HM.out.2
              subst hmm2
              subst hmm3
              have HBr := Lib.hid (HBz.out.trans (HQ.out.mono HBz.out.size))
              have HWd := Lib.hid (words_any A3 (2 * m1) c3 wr.heap.size (flatW ws) wr (Reads.of_own HU.out) (fun x hx => by
                obtain ⟨e, he, h | h⟩ := flatW_mem ws x hx
                · rw [h]; exact (HVal.out e he).1
                · rw [h]; exact (HVal.out e he).2) (by omega) (HTb.out.below HBr.out))
              have u1 : IntKind.u64.wrap (m1 : Int) = (m1 : Int) := by rw [IntKind.wrap_u64]; omega
              go_wp2_with fail
              refine HWd.out.mono ?_
              rintro e w2 ⟨v, hv, rfl, rfl⟩
              have u2 : IntKind.u64.wrap (v : Int) = (v : Int) := by rw [IntKind.wrap_u64]; omega
              obtain ⟨cm, hcm, hcl⟩ : ∃ cm : Nat, bits BinOp.or IntKind.u64 (m1 : Int) ((v : Int) * 4294967296) = (cm : Int) ∧ cm < 18446744073709551616 := by
                refine ⟨m1 + v * 4294967296, ?_, by omega⟩
                have h := Go.u64_or32 (y := (m1 : Int)) (x := (v : Int) * 4294967296) (by omega) (by omega) (by omega) (by omega) (by omega)
                rw [h]
                omega
              have hfl : ws.length = m1 := HLN.out
              have HBk := Lib.hid (HBB.out.below HBr.out HBB.out.lt)
              have HSt := Lib.hid (stores_small A2 (2 * m1) c2 _ wr (Reads.of_own HO.out) (by omega) (by omega) (fun e he => by
                obtain ⟨j2, h1, h2, _⟩ := entW_mem _ _ _ _ he
                omega))
              have HMk : Hid (∀ W, Below wr.heap.size wr W → Calls Tryz.prog 106 #[.pointer (some ⟨g, 0, none⟩), .int .u64 (cm : Int)] W (RetProg W (IsStores [(z, cm)]))) := Lib.hid (fun W hW => by
                have h := mark_any a s n g cm W (HBk.out.below hW HBk.out.lt) (by omega)
                rw [HZ.out] at h
                exact h)
              have HFi : Hid (∀ W, Below wr.heap.size wr W → Calls Tryz.prog 176 #[.pointer (some ⟨g, 0, none⟩), .slice A1 m1 c1] W (RetProg W (IsTwo ws [(z, 0)]))) := Lib.hid (fun W hW => by
                have hr := hrd.out.below (HQ.out.trans (hW.mono HQ.out.size))
                have h := finish_any a s n g A1 m1 c1 ws W (hr.more (Nat.le_trans HQ.out.size hW.size)) h0 (by omega) (fun e he => (HVal.out e he).1) (HBk.out.below hW HBk.out.lt) (by omega)
                rw [HZ.out] at h
                exact h)
              clear HWd HU HO
              go_wp2_with fail
              refine HSt.out.mono ?_
              rintro e1 w4 ⟨B1, n1, d1, p1, rfl, hp1, ho1, hb1⟩
              have HP1 := Lib.hid hp1
              have HO1 := Lib.hid ho1
              have HB4 := Lib.hid hb1
              have HMk4 := Lib.hid (HMk.out w4 hb1)
              clear hp1 ho1 hb1 HSt
              go_wp2_with fail
              refine HMk4.out.mono ?_
              rintro e1 w5 ⟨B2, n2, d2', p2, rfl, hp2, ho2, hb2⟩
              have HP2 := Lib.hid hp2
              have HB5 := Lib.hid (HB4.out.trans (hb2.mono HB4.out.size))
              have hl1 : n1 ≤ 390 := by
                have h1 := HO1.out.1
                have h2 := isStores_len HP1.out
                rw [insCells_len] at h1
                rw [entW_len] at h2
                omega
              have hl2 : n2 ≤ 3 := by
                have h1 := ho2.1
                have h2 := isStores_len HP2.out
                rw [insCells_len] at h1
                simp at h2
                omega
              have HTh := Lib.hid (then_any B1 B2 n1 d1 n2 d2' p1 p2 w5 (Reads.of_own (own_below HO1.out hb2)) (Reads.of_own ho2) (by omega) (by omega))
              clear hp2 ho2 hb2 HMk4 HO1
              go_wp2_with fail
              refine HTh.out.mono ?_
              rintro e1 w6 ⟨B3, n3, d3, rfl, hn3, ho3, hb3⟩
              have HO3 := Lib.hid ho3
              have HB6 := Lib.hid (HB5.out.trans (hb3.mono HB5.out.size))
              have HFi6 := Lib.hid (HFi.out w6 HB6.out)
              have hl3 : n3 ≤ 393 := by omega
              clear hn3 ho3 hb3 HTh
              go_wp2_with fail
              refine HFi6.out.mono ?_
              rintro e1 w7 ⟨B4, n4, d4, p4, rfl, hp4, ho4, hb4⟩
              have HP4 := Lib.hid hp4
              have HB7 := Lib.hid (HB6.out.trans (hb4.mono HB6.out.size))
              have hl4 : n4 ≤ 200 := by
                have h1 := ho4.1
                have h2 := isTwo_len HP4.out
                rw [insCells_len] at h1
                simp at h2
                omega
              have HTh2 := Lib.hid (then_any B3 B4 n3 d3 n4 d4 (p1 ++ p2) p4 w7 (Reads.of_own (own_below HO3.out hb4)) (Reads.of_own ho4) (by omega) (by omega))
              clear hp4 ho4 hb4 HFi6 HO3
              go_wp2_with fail
              refine HTh2.out.mono ?_
              rintro e1 w8 ⟨B5, n5, d5, rfl, hn5, ho5, hb5⟩
              have HO5 := Lib.hid ho5
              have HB8 := Lib.hid (HBr.out.trans ((HB7.out.trans (hb5.mono HB7.out.size)).mono HBr.out.size))
              have HZ7 := Lib.hid (Nat.le_trans HBr.out.size HB7.out.size)
              clear hn5 ho5 hb5 HTh2
              go_wp2
              go_ret2
              have hz := HZ.out
              subst hz
              exact ⟨_, _, _, _, rfl, .inr ⟨fun h => by rw [h] at hfl; simp at hfl; omega, cm, p1, p2, p4, hcl, HP1.out, HP2.out, HP4.out, rfl⟩, own_le HO5.out HZ7.out, HB8.out⟩
end Go.Proofs.YtklpeghhgoeeiaaGreatDoor
/- redo: Commit over an idle log. -/
namespace Go.Proofs.YtklpeghhgoeeiaaGreatDoor
open Go.RowKit Go.Maps Go.Shelf
theorem run_redo {a : DA} {T : Nat} {w : World} {S : Fp} {cur : Nat → Nat} (h : Dev a 152 T w S cur 0) {A : Option Addr} {m c base : Nat} {p : List Ins} {ws : List (Nat × Nat)} (ho : w.ownsRow base 178 3 (.slice A m c) m (insCells p)) (hb : ∀ k, S k → k < base) (hp : IsRedo 4 ws p)
    (hw : ∀ e ∈ ws, OffOk 152 4 26 e.1) (hv : ∀ e ∈ ws, e.2 < 18446744073709551616) (hl : ws.length ≤ 96) (hT : T + 800 ≤ 1000000000) :
    Calls Tryz.prog 45 #[.slice A m c, memV a] w fun e w' => ∃ cm, cm < 18446744073709551616 ∧ RetDev a 152 (T + 800) w S (rdC cur ws cm) 0 (.int .i64 0) e w' := by
  rcases hp with ⟨rfl, rfl⟩ | ⟨hne, cm, p1, p2, p3, hcm, hp1, hp2, ⟨p4, p5, hp4, hp5, rfl⟩, rfl⟩
  · have hm : m = 0 := by have := ho.1; simp [insCells] at this; omega
    subst hm
    refine (run_any h A 0 c [] (Reads.of_own ho) (own_off ho hb) rfl (by omega) (by omega)).mono ?_
    rintro e w' ⟨he, S', hd, hc, hgr⟩
    exact ⟨0, by omega, he, S', hd.more (by omega) (by omega), hc, hgr⟩
  · have h1 : ∀ e ∈ entW (64 * 4) 0 ws, e.1 % 8 = 0 ∧ e.1 < 64 * 152 ∧ e.2 < 18446744073709551616 := fun e he => by
      obtain ⟨j, hj, h1, x, hx, h2⟩ := entW_mem _ _ _ _ he
      have := (hw x hx).lt
      have := hv x hx
      refine ⟨by omega, by omega, ?_⟩
      rcases h2 with h2 | h2 <;> omega
    have h2 : ∀ v, v < 18446744073709551616 → ∀ e ∈ [((64 * 4 : Nat), v)], e.1 % 8 = 0 ∧ e.1 < 64 * 152 ∧ e.2 < 18446744073709551616 := fun v hv e he => by
      simp only [List.mem_cons, List.not_mem_nil, or_false] at he
      subst he
      exact ⟨by show 64 * 4 % 8 = 0; decide, by show 64 * 4 < 64 * 152; decide, hv⟩
    have h3 : ∀ e ∈ ws, e.1 % 8 = 0 ∧ e.1 < 64 * 152 ∧ e.2 < 18446744073709551616 := fun e he => ⟨(hw e he).al, (hw e he).lt, hv e he⟩
    obtain ⟨hg1, hr1, hlen1⟩ := isStores_good hp1 h1 cur
    obtain ⟨hg2, hr2, hlen2⟩ := isStores_good hp2 (h2 cm hcm) (wrS cur (entW (64 * 4) 0 ws))
    obtain ⟨hg4, hr4, hlen4⟩ := isStores_good hp4 h3 (wrS (wrS cur (entW (64 * 4) 0 ws)) [(64 * 4, cm)])
    obtain ⟨hg5, hr5, hlen5⟩ := isStores_good hp5 (h2 0 (by omega)) (wrS (wrS (wrS cur (entW (64 * 4) 0 ws)) [(64 * 4, cm)]) ws)
    have hm : (p1 ++ p2 ++ (p4 ++ p5)).length = m := by have := ho.1; rw [insCells_len] at this; omega
    rw [entW_len] at hlen1
    simp only [List.length_append, List.length_cons, List.length_nil] at hm hlen2 hlen5
    refine (run_any h A m c _ (Reads.of_own ho) (own_off ho hb) (goodP_app (goodP_app hg1 hg2) (goodP_app hg4 hg5)) (by omega) (by omega)).mono ?_
    rintro e w' ⟨he, S', hd, hc, hgr⟩
    rw [runP_app, runP_app, runP_app, hr1, hr2, hr4, hr5] at hd
    have hrd : rdC cur ws cm = wrS (wrS (wrS (wrS cur (entW (64 * 4) 0 ws)) [(64 * 4, cm)]) ws) [(64 * 4, 0)] := by unfold rdC; rw [if_neg hne]
    rw [← hrd] at hd
    exact ⟨cm, hcm, he, S', hd.more (by omega) (by omega), hc, hgr⟩
def RetCmR (a : DA) (T' : Nat) (w : World) (S : Fp) (cur : Nat → Nat) (ws : List (Nat × Nat)) (e : Ending) (w' : World) : Prop := ∃ cm, cm < 18446744073709551616 ∧ RetDev a 152 T' w S (rdC cur ws cm) 0 (.int .i64 0) e w'
set_option maxRecDepth 100000 in
set_option maxHeartbeats 1000000 in
theorem commitR_any {a : DA} {T : Nat} {w : World} {S : Fp} {cur : Nat → Nat} (h : Dev a 152 T w S cur 0) (g : Nat) (hB : Blk w g 246 (logCells a 4 26))
    (A : Option Addr) (N c : Nat) (ws : List (Nat × Nat)) (hr : Reads w w.heap.size 2 A N (wrCells ws)) (hd : Diff ws) (ho : ∀ e ∈ ws, OffOk 152 4 26 e.1) (hv : ∀ e ∈ ws, e.2 < 18446744073709551616) (hN : N ≤ 96) (hidle : cur 32 = 0) (ht : Tab w) (hT : T + 800 ≤ 1000000000) :
    Calls Tryz.prog 145 #[.pointer (some ⟨g, 0, none⟩), .slice A N c] w (RetCmR a (T + 800) w S cur ws) := by
  have HP := Lib.hid (planR_any h g 4 26 hB (by omega) (by omega) A N c ws hr hd ho hv hN hidle ht)
  have hlen : ws.length = N := by have := hr.1; rw [wrCells_len] at this; omega
  have HRn : Hid (∀ W A1 m1 c1 p, Below w.heap.size w W → W.ownsRow w.heap.size 178 3 (.slice A1 m1 c1) m1 (insCells p) → IsRedo 4 ws p → Calls Tryz.prog 45 #[.slice A1 m1 c1, memV a] W fun e w' => ∃ cm, cm < 18446744073709551616 ∧ RetDev a 152 (T + 800) W S (rdC cur ws cm) 0 (.int .i64 0) e w') := Lib.hid (fun W A1 m1 c1 p hW hown hp =>
    run_redo (h.below hW) hown h.lt hp ho hv (by omega) hT)
  have HBB := Lib.hid hB
  clear h hB hr hd ho hv hN hidle ht hlen
  go_enter Tryz.func145, Tryz.ntmps145
  go_wp2_with fail
  refine HP.out.mono ?_
  rintro e W1 ⟨A1, m1, c1, p, rfl, hp, ho1, hb1⟩
  have f0 : W1.cell? ⟨g, 0, none⟩ = some (memV a) := (HBB.out.below hb1 HBB.out.lt).cell 0
  have HR := Lib.hid (HRn.out W1 A1 m1 c1 p hb1 ho1 hp)
  have HB1 := Lib.hid hb1
  unfold memV at f0
  unfold memV at HR
  clear hp ho1 hb1 HP HRn
  go_wp2_with fail
  refine HR.out.mono ?_
  rintro e W2 ⟨cm, hcm, rfl, S2, hd2, hc2, hg2⟩
  have H2 := Lib.hid (show Dev a 152 (T + 800) W2 S2 (rdC cur ws cm) 0 ∧ Chg S W1 W2 ∧ Grew S S2 W1 from ⟨hd2, hc2, hg2⟩)
  clear hd2 hc2 hg2 HR
  go_wp2
  go_ret
  obtain ⟨hd2, hc2, hg2⟩ := H2.out
  exact ⟨cm, hcm, rfl, S2, hd2, (Chg.of_below HB1.out).trans hc2 (Grew.refl _ _), fun k hk => (hg2 k hk).imp id (fun h => Nat.le_trans HB1.out.size h)⟩
end Go.Proofs.YtklpeghhgoeeiaaGreatDoor
/- tx: apply in mode Redo, without actions. -/
namespace Go.Proofs.YtklpeghhgoeeiaaGreatDoor
open Go.RowKit Go.Maps Go.Sort Go.Shelf
/-- What apply looks at. -/
def ApS (g m r : Nat) (t : TX) (w' : World) : Prop := w'.cell? ⟨g, 6, none⟩ = some (.pointer (some ⟨m, 0, none⟩)) ∧ w'.cell? ⟨m, 1, none⟩ = some (.pointer (some ⟨r, 0, none⟩)) ∧ w'.cell? ⟨g, 0, none⟩ = some (.map (some t.words)) ∧ w'.cell? ⟨g, 1, none⟩ = some (.map (some t.inner)) ∧ w'.cell? ⟨g, 2, none⟩ = some (.map (some t.own)) ∧ w'.cell? ⟨g, 3, none⟩ = some (.map (some t.freed)) ∧ w'.cell? ⟨g, 4, none⟩ = some (.bool t.outside) ∧ w'.cell? ⟨g, 5, none⟩ = some (.bool t.surplus)
theorem ApS.of {c : CX} {g : Nat} {w : World} {S : Fp} {t : TX} {D : DataW Unit} {n : Nat} {cur : Nat → Nat} {T : Nat} (h : TxS c g w S t D n cur T) : ApS g c.x.m c.x.r t w := ⟨h.tx.cell 6, h.base.sys.m.cell 1, h.tx.cell 0, h.tx.cell 1, h.tx.cell 2, h.tx.cell 3, h.tx.cell 4, h.tx.cell 5⟩
theorem chW_diff {D : DataW Unit} {ks : List Nat} (h : ks.Nodup) : Diff (chW D ks) := by
  intro i j hi hj hij e
  have hi' : i < ks.length := by simpa [chW] using hi
  have hj' : j < ks.length := by simpa [chW] using hj
  have e1 : (chW D ks)[i].1 = ks[i] := by simp [chW]
  have e2 : (chW D ks)[j].1 = ks[j] := by simp [chW]
  rw [e1, e2] at e
  exact hij ((List.getElem_inj h).1 e)
set_option maxRecDepth 100000 in
set_option maxHeartbeats 2000000 in
theorem apply_redo {c : CX} {g : Nat} {w : World} {S : Fp} {t : TX} {D : DataW Unit} {n : Nat} {cur : Nat → Nat} {T : Nat} {f : Fm} {k : Nat} (h : TxS c g w S t D n cur T) (hmode : t.mode = 1) (hd : DRel 1 cur D f k) (hk : k ≤ 96) (hidle : cur 32 = 0) (hT : T ≤ 1000000) (ht : Tab c.w0) :
    Calls Tryz.prog 67 #[.pointer (some ⟨g, 0, none⟩), .slice none 0 0] w fun e w' => ∃ cur', (∃ ks cm, ks.Perm (uKeys D) ∧ cm < 18446744073709551616 ∧ cur' = rdC cur (chW D ks) cm) ∧ RetSt c g w S t D n cur' (T + 800) (.int .i64 0) e w' := by
  obtain ⟨i0, hi0, hz0, hz1, hz2⟩ := info_parts infoWrite
  have c7 : w.cell? ⟨g, 7, none⟩ = some (.int .u8 1) := (h.tx.cell 7).trans (by simp [txCells, hmode])
  have HX := Lib.hid h
  have HS0 : Hid (ApS g c.x.m c.x.r t w.drew) := Lib.hid (show ApS g c.x.m c.x.r t w from ApS.of h)
  have HCh := Lib.hid (changed_any w.drew t.words t.inner t.own t.freed t.outside t.surplus D n h.maps.words (by rw [hd.size]; omega))
  have HXd : Hid (TxS c g w.drew S t D n cur T) := Lib.hid (h.more_ (Below.refl _ _).drew)
  have HPk := Lib.hid (fun o => has_key h.maps.words o)
  have HNd := Lib.hid (uKeys_nodup h.maps.words)
  have HSz := Lib.hid ((uKeys_size h.maps.words).trans hd.size)
  have HDr := Lib.hid hd
  have HTb := Lib.hid ht
  have HId := Lib.hid hidle
  clear h hmode hd ht hidle
  go_enter Tryz.func67, Tryz.ntmps67
  go_wp2_with fail
  refine wp_region_script (ApS g c.x.m c.x.r t) 14 [(true, 0), (true, 1), (true, 2), (true, 3), (true, 4), (true, 5), (true, 6), (true, 7), (true, 8), (true, 9), (true, 10), (true, 12), (false, 11), (false, 13)] (by kernel_rfl) (by kernel_rfl) HS0.out ?_
  refine wpScript_take (.pointer (some ⟨g, 0, none⟩)) (by rfl) (by rfl) (fun w' hS => ?_) ?_
  · go_simp
  simp only [List.getElem_toArray, List.getElem_cons_zero, Act.put, List.setIfInBounds_toArray, List.set_cons_zero, List.set_cons_succ]
  refine wpScript_take (.pointer (some ⟨g, 0, none⟩)) (by rfl) (by rfl) (fun w' hS => ?_) ?_
  · go_simp
  simp only [List.getElem_toArray, List.getElem_cons_zero, List.getElem_cons_succ, Act.put, List.setIfInBounds_toArray, List.set_cons_zero, List.set_cons_succ]
  refine wpScript_take (.pointer (some ⟨g, 6, none⟩)) (by rfl) (by rfl) (fun w' hS => ?_) ?_
  · go_simp
  simp only [List.getElem_toArray, List.getElem_cons_zero, List.getElem_cons_succ, Act.put, List.setIfInBounds_toArray, List.set_cons_zero, List.set_cons_succ]
  refine wpScript_take (.pointer (some ⟨c.x.m, 0, none⟩)) (by rfl) (by rfl) (fun w' hS => ?_) ?_
  · have f1 := hS.1
    go_simp
  simp only [List.getElem_toArray, List.getElem_cons_zero, List.getElem_cons_succ, Act.put, List.setIfInBounds_toArray, List.set_cons_zero, List.set_cons_succ]
  refine wpScript_take (.pointer (some ⟨c.x.m, 0, none⟩)) (by rfl) (by rfl) (fun w' hS => ?_) ?_
  · go_simp
  simp only [List.getElem_toArray, List.getElem_cons_zero, List.getElem_cons_succ, Act.put, List.setIfInBounds_toArray, List.set_cons_zero, List.set_cons_succ]
  refine wpScript_take (.pointer (some ⟨c.x.m, 1, none⟩)) (by rfl) (by rfl) (fun w' hS => ?_) ?_
  · go_simp
  simp only [List.getElem_toArray, List.getElem_cons_zero, List.getElem_cons_succ, Act.put, List.setIfInBounds_toArray, List.set_cons_zero, List.set_cons_succ]
  refine wpScript_take (.pointer (some ⟨c.x.r, 0, none⟩)) (by rfl) (by rfl) (fun w' hS => ?_) ?_
  · have f1 := hS.2.1
    go_simp
  simp only [List.getElem_toArray, List.getElem_cons_zero, List.getElem_cons_succ, Act.put, List.setIfInBounds_toArray, List.set_cons_zero, List.set_cons_succ]
  refine wpScript_take (.pointer (some ⟨g, 0, none⟩)) (by rfl) (by rfl) (fun w' hS => ?_) ?_
  · go_simp
  simp only [List.getElem_toArray, List.getElem_cons_zero, List.getElem_cons_succ, Act.put, List.setIfInBounds_toArray, List.set_cons_zero, List.set_cons_succ]
  refine wpScript_take (.pointer (some ⟨g, 0, none⟩)) (by rfl) (by rfl) (fun w' hS => ?_) ?_
  · go_simp
  simp only [List.getElem_toArray, List.getElem_cons_zero, List.getElem_cons_succ, Act.put, List.setIfInBounds_toArray, List.set_cons_zero, List.set_cons_succ]
  refine wpScript_take (.pointer (some ⟨g, 0, none⟩)) (by rfl) (by rfl) (fun w' hS => ?_) ?_
  · go_simp
  simp only [List.getElem_toArray, List.getElem_cons_zero, List.getElem_cons_succ, Act.put, List.setIfInBounds_toArray, List.set_cons_zero, List.set_cons_succ]
  refine wpScript_take (stV t.words t.inner t.own t.freed t.outside t.surplus) (by rfl) (by rfl) (fun w' hS => ?_) ?_
  · (obtain ⟨_, _, f0, f1, f2, f3, f4, f5⟩ := hS; unfold stV)
    go_simp
  simp only [List.getElem_toArray, List.getElem_cons_zero, List.getElem_cons_succ, Act.put, List.setIfInBounds_toArray, List.set_cons_zero, List.set_cons_succ]
  refine wpScript_take (.slice none 0 0) (by rfl) (by rfl) (fun w' hS => ?_) ?_
  · go_simp
  simp only [List.getElem_toArray, List.getElem_cons_zero, List.getElem_cons_succ, Act.put, List.setIfInBounds_toArray, List.set_cons_zero, List.set_cons_succ]
  refine wpScript_do (by rfl) ?_
  go_wp2_with fail
  refine HCh.out.mono ?_
  rintro e W1 ⟨ks, hp, A, m, c1, rfl, hm, ho, hb⟩
  have HX1 := Lib.hid (HXd.out.more_ hb)
  have HB1 : Hid (Below w.heap.size w W1) := Lib.hid ((Below.refl _ w).drew.trans hb)
  have hsz : w.drew.heap.size ≤ W1.heap.size := hb.size
  have hkl : ks.length ≤ 96 := by rw [hp.length_eq, HSz.out]; exact hk
  have hml : m ≤ 96 := by rw [hm]; simpa [chW] using hkl
  have HP := Lib.hid hp
  have HO1 := Lib.hid ho
  have HM1 := Lib.hid hm
  have HS1 := Lib.hid (ApS.of HX1.out)
  clear hp ho hm hb HCh HS0 HXd
  go_wp2_with fail
  refine ⟨HS1.out, ?_⟩
  refine wpScript_do (by rfl) ?_
  refine wpList_app _ (.tmp 26) (.tmp 27) 120 rfl rfl w.drew.heap.size 130 i0 _ 2 16 Tryz.underlying120 hi0 hz0 hz1 hz2 rfl (by omega) (.slice A m c1) m (wrCells (chW D ks)) rfl HO1.out W1.heap.size none 0 0 [] rfl ⟨rfl, fun h => absurd h (by omega)⟩ (fun u hu => by simp at hu) (by unfold maxLen; omega) (by omega) hsz ?_
  intro A3 n3 c3 w8 hn3 ho3 hg3 hb3
  have hb13 : Below w.heap.size w w8 := HB1.out.trans hb3
  have HB8 := Lib.hid hb13
  have HX8 := Lib.hid (HX.out.more_ hb13)
  have HS8 := Lib.hid (ApS.of HX8.out)
  have hkey : ∀ o, o ∈ ks ↔ has D (kU o) = true := fun o => by rw [HPk.out o]; exact HP.out.mem_iff
  have hnd : ks.Nodup := HP.out.nodup_iff.2 HNd.out
  rw [List.append_nil] at ho3
  have hmem : ∀ e ∈ chW D ks, Good e.1 ∧ e.2 < 18446744073709551616 := fun e he => HDr.out.chW_good hkey he
  have HCm := Lib.hid (commitR_any HX8.out.base.dev c.x.r HX8.out.base.sys.r A3 n3 c3 (chW D ks) (Reads.of_own ho3) (chW_diff hnd) (fun e he => (hmem e he).1.r) (fun e he => (hmem e he).2) (by omega) HId.out (HTb.out.below HX8.out.base.below) (by omega))
  clear hn3 ho3 hg3 hb3 hb13 HO1 HX1 HB1 HS1 hkey hnd hmem
  refine ⟨HS8.out, ?_⟩
  show wpList _ _ _ _ _ _
  simp only [List.drop_succ_cons, List.drop_zero]
  go_wp2_with fail
  refine HCm.out.mono ?_
  rintro e W9 ⟨cm, hcm, h9⟩
  obtain ⟨rfl, hi9⟩ := StI.step HX8.out (Chg.of_below (S := S) HB8.out) (Grew.refl _ _) h9
  have HI9 := Lib.hid hi9
  clear h9 hi9 HCm
  go_wp2
  refine NoPanic.normal ?_
  go_wp2
  go_ret
  exact ⟨_, ⟨ks, cm, HP.out, hcm, rfl⟩, rfl, HI9.out⟩
end Go.Proofs.YtklpeghhgoeeiaaGreatDoor
