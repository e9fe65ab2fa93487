/- The walks and laws that the claim leans on, part 27. -/
import Derived.Test.YtpihhlbfpbngaaaGreatDoorJax
namespace Go.Proofs.YtpihhlbfpbngaaaGreatDoor
open Go.RowKit
def cksOf (s : Nat) (cs : Nat → CS) (cl K : Nat) : List Int := ((List.range K).filter fun k => (cs k).dv && (cs k).cl == cl).map fun k => ((s + 32 * k : Nat) : Int)
theorem cksOf_succ (s : Nat) (cs : Nat → CS) (cl K : Nat) : cksOf s cs cl (K + 1) = if ((cs K).dv && (cs K).cl == cl) = true then cksOf s cs cl K ++ [((s + 32 * K : Nat) : Int)] else cksOf s cs cl K := by
  unfold cksOf
  rw [List.range_succ, List.filter_append, List.map_append]
  by_cases h : ((cs K).dv && (cs K).cl == cl) = true
  · rw [if_pos h]; simp [h]
  · rw [if_neg h]; simp [h]
theorem cks_own (c : CS) (cl : Nat) : ((c.own == 0) && (c.cls == (cl : Int))) = (c.dv && c.cl == cl) := by
  unfold CS.own CS.cls
  cases c.dv
  · rfl
  · simp only [if_true, Bool.true_and, beq_self_eq_true]
    by_cases h : c.cl = cl
    · rw [h]; simp
    · rw [beq_eq_false_iff_ne.2 h, beq_eq_false_iff_ne]; omega
theorem cksOf_mem {s : Nat} {cs : Nat → CS} {cl K : Nat} {x : Int} (h : x ∈ cksOf s cs cl K) : ∃ k, k < K ∧ (cs k).dv = true ∧ (cs k).cl = cl ∧ x = ((s + 32 * k : Nat) : Int) := by
  unfold cksOf at h
  obtain ⟨k, hk, rfl⟩ := List.mem_map.1 h
  obtain ⟨h1, h2⟩ := List.mem_filter.1 hk
  simp at h1 h2
  exact ⟨k, h1, h2.1, h2.2, rfl⟩
theorem cksOf_in {s : Nat} {cs : Nat → CS} {cl K k : Nat} (hk : k < K) (h1 : (cs k).dv = true) (h2 : (cs k).cl = cl) : ((s + 32 * k : Nat) : Int) ∈ cksOf s cs cl K := by
  unfold cksOf
  refine List.mem_map.2 ⟨k, List.mem_filter.2 ⟨List.mem_range.2 hk, ?_⟩, rfl⟩
  simp [h1, h2]
theorem cksOf_len (s : Nat) (cs : Nat → CS) (cl K : Nat) : (cksOf s cs cl K).length ≤ K := by
  unfold cksOf
  rw [List.length_map]
  exact Nat.le_trans (List.length_filter_le _ _) (by simp)
set_option maxRecDepth 100000 in
set_option maxHeartbeats 2000000 in
theorem chunks_any {a : DA} {s K : Nat} {x : PA} {cs : Nat → CS} {w : World} (h : Plc a s K x cs w) (hK : K ≤ 128) (_hs : s ≤ 100000) (cl : Nat) :
    Calls Tryz.prog 241 #[.pointer (some ⟨x.gs, 0, none⟩), .int .i64 0, .int .i64 (cl : Int)] w (RetLns w (cksOf s cs cl K)) := by
  obtain ⟨c, _, f1⟩ := h.sets
  have HP := Lib.hid h
  obtain ⟨i0, hi0, hz0, hz1, hz2⟩ := info_parts infoInt
  have HB0 : Hid (Below w.heap.size w w) := Below.refl _ _
  have HO0 : Hid (w.ownsRow w.heap.size 3 1 (.slice none 0 0) 0 (iCells [])) := World.ownsRow_nil _ _ _ _
  have dcl : decide ((cl : Int) < 0) = false := decide_eq_false (by omega)
  clear h
  obtain ⟨gs, pl, po⟩ := x
  dsimp only at *
  go_enter Tryz.func241, Tryz.ntmps241
  go_wp2
  go_loopw [7, 25] (fun p i wr => ∃ (k : Nat) (A1 : Option Addr) (m1 c1 : Nat) (l : List Int), k ≤ K ∧ i = .int .i64 k ∧ p = .slice A1 m1 c1 ∧ Hid (l = cksOf s cs cl k) ∧ Hid (wr.ownsRow w.heap.size 3 1 (.slice A1 m1 c1) m1 (iCells l)) ∧ Hid (Below w.heap.size w wr)) (fun _ i _ => K - (intOf i).toNat)
  case atStart => exact ⟨0, _, _, _, [], Nat.zero_le _, rfl, rfl, Lib.hid rfl, HO0, HB0⟩
  case round =>
    clear HB0 HO0
    obtain ⟨k, A1, m1, c1, l, hk, rfl, rfl, HL, HO, H⟩ := hrel
    by_cases hlt : k < K
    · obtain ⟨f0, f2, f3, b4, f4⟩ := (HP.out.below H.out).facts (k := k) hlt
      dsimp only at f0 f2 f3 f4
      have hz5 : (0 : Int) ≤ (k : Int) := by omega
      have hz6 : (k : Int) < (K : Int) := by omega
      have hm1 : m1 ≤ 128 := by have h1 := HO.out.1; have h2 := cksOf_len s cs cl k; rw [iCells_len, HL.out] at h1; omega
      have HCO := Lib.hid (cks_own (cs k) cl)
      have HSU := Lib.hid (cksOf_succ s cs cl k)
      generalize hbb : ((cs k).dv && (cs k).cl == cl) = bb at *
      rw [← HL.out] at HSU
      have HCK : Hid (cksOf s cs cl (k + 1) = cksOf s cs cl (k + 1)) := Lib.hid rfl
      clear hbb
      generalize ((s + 32 * k : Nat) : Int) = v at *
      generalize (cs k).cls = v1 at *
      generalize (cs k).own = v2 at *
      have HLE := Lib.hid H.out.size
      have HOD := Lib.hid ((HO.out.alloc (.cells #[.int .i64 v, .int .i64 v1, .int .i64 v2, .bool b4] 323)))
      have HBD := Lib.hid ((H.out.alloc H.out.size (.cells #[.int .i64 v, .int .i64 v1, .int .i64 v2, .bool b4] 323)))
      have HOE := Lib.hid (HOD.out.alloc (.cells #[.int .i64 v] 3))
      have HBE := Lib.hid (HBD.out.alloc (by have := H.out.size; simp; omega) (.cells #[.int .i64 v] 3))
      clear H HO HCK
      cases bb
      · have HLN : Hid (l = cksOf s cs cl (k + 1)) := Lib.hid (by rw [HSU.out]; rfl)
        by_cases hv2 : v2 = 0
        · have q1 : (v2 == 0) = true := by rw [hv2]; rfl
          have q2 : (v1 == (cl : Int)) = false := by have := HCO.out; rw [q1] at this; simpa using this
          clear hv2 HCO HSU HL
          go_wp2
          go_roundw
          case rel =>
            first
              | exact ⟨k + 1, _, _, _, _, by omega, by go_num, rfl, HLN, HOD, HBD⟩
              | (repeat apply Exists.intro
                 refine ⟨?_, rfl⟩
                 exact ⟨k + 1, _, _, _, _, by omega, by go_num, rfl, HLN, HOD, HBD⟩)
          case measure => simp [intOf]; omega
        · have q1 : (v2 == 0) = false := by rw [beq_eq_false_iff_ne]; exact hv2
          clear hv2 HCO HSU HL
          go_wp2
          go_roundw
          case rel =>
            first
              | exact ⟨k + 1, _, _, _, _, by omega, by go_num, rfl, HLN, HOD, HBD⟩
              | (repeat apply Exists.intro
                 refine ⟨?_, rfl⟩
                 exact ⟨k + 1, _, _, _, _, by omega, by go_num, rfl, HLN, HOD, HBD⟩)
          case measure => simp [intOf]; omega
      · have HLN : Hid (l ++ [v] = cksOf s cs cl (k + 1)) := Lib.hid (by rw [HSU.out]; rfl)
        have q1 : (v2 == 0) = true := by have := HCO.out; rw [Bool.and_eq_true] at this; exact this.1
        have q2 : (v1 == (cl : Int)) = true := by have := HCO.out; rw [Bool.and_eq_true] at this; exact this.2
        clear HCO HSU HL HOD HBD
        go_wp2_with (first
          | (at_builtin; refine wpList_app _ (.tmp 39) (.tmp 42) 85 rfl rfl w.heap.size 3 i0 _ 1 8 Tryz.underlying85 hi0 hz0 hz1 hz2 rfl ?q1 (.slice A1 m1 c1) m1 (iCells l) rfl HOE.out (wr.heap.size + 1 + 1) (some ⟨wr.heap.size + 1, 0, none⟩) 1 1 [.int .i64 v] rfl ?q5 ?q6 ?q2 ?q3 ?q4 ?_; (case q1 => omega); (case q5 => exact row_reads_at _ _ (by simp) _ 1 1 3 _ rfl rfl); (case q6 => (intro u hu; simp at hu; subst hu; rfl)); (case q2 => (unfold maxLen; omega)); (case q3 => omega); (case q4 => (have := HLE.out; simp; omega)); intro A3 n3 c3 w8 hn3 ho3 hg3 hb3; have HN3 := Lib.hid hn3; have HO3 := Lib.hid ho3; have HB3 := Lib.hid (HBE.out.trans hb3); clear hn3 ho3 hg3 hb3)
          | go_in)
        have HO4 : Hid (w8.ownsRow w.heap.size 3 1 (.slice A3 n3 c3) n3 (iCells (l ++ [v]))) := Lib.hid (by have h := HO3.out; simpa [iCells] using h)
        go_roundw
        case rel =>
          first
            | exact ⟨k + 1, _, _, _, _, by omega, by go_num, rfl, HLN, HO4, HB3⟩
            | (repeat apply Exists.intro
               refine ⟨?_, rfl⟩
               exact ⟨k + 1, _, _, _, _, by omega, by go_num, rfl, HLN, HO4, HB3⟩)
        case measure => simp [intOf]; omega
    · obtain rfl : K = k := by omega
      have HOK : Hid (wr.ownsRow w.heap.size 3 1 (.slice A1 m1 c1) m1 (iCells (cksOf s cs cl K))) := Lib.hid (by rw [← HL.out]; exact HO.out)
      go_wp2
      go_ret
      exact ⟨_, _, _, rfl, HOK.out, H.out⟩
end Go.Proofs.YtpihhlbfpbngaaaGreatDoor
namespace Go.Proofs.YtpihhlbfpbngaaaGreatDoor
open Go.RowKit
set_option maxRecDepth 100000 in
set_option maxHeartbeats 2000000 in
theorem pick_any {a : DA} {s K : Nat} {x : PA} {cs : Nat → CS} {w : World} (h : Plc a s K x cs w) (_hK : K ≤ 128) (_hs : s ≤ 100000) (hf : ∃ k, k < K ∧ (cs k).dv = false) :
    Calls Tryz.prog 295 #[.pointer (some ⟨x.gs, 0, none⟩)] w fun e w' => ∃ k, k < K ∧ (cs k).dv = false ∧ e = .returned (.tuple #[.pointer (some ⟨x.pl, x.po + k * 4, none⟩), .int .i64 0]) ∧ w = w' := by
  obtain ⟨c, _, f1⟩ := h.sets
  have HP := Lib.hid h
  have HF := Lib.hid hf
  clear h hf
  obtain ⟨gs, pl, po⟩ := x
  dsimp only at *
  go_enter Tryz.func295, Tryz.ntmps295
  go_wp2
  go_loopw [15] (fun i wr => ∃ (k : Nat), k ≤ K ∧ i = .int .i64 k ∧ Hid (∀ j, j < k → (cs j).dv = true) ∧ w = wr) (fun i _ => K - (intOf i).toNat)
  case atStart => exact ⟨0, Nat.zero_le _, rfl, Lib.hid (fun j hj => by omega), rfl⟩
  case round =>
    obtain ⟨k, hk, rfl, HA, rfl⟩ := hrel
    by_cases hlt : k < K
    · obtain ⟨f0, f2, f3, b4, f4⟩ := HP.out.facts (k := k) hlt
      dsimp only at f0 f2 f3 f4
      have hz5 : (0 : Int) ≤ (k : Int) := by omega
      have hz6 : (k : Int) < (K : Int) := by omega
      unfold CS.cls at f2
      by_cases hd : (cs k).dv = true
      · rw [if_pos hd] at f2
        have hq : decide (((cs k).cl : Int) < 0) = false := decide_eq_false (by omega)
        have HA2 : Hid (∀ j, j < k + 1 → (cs j).dv = true) := Lib.hid (fun j hj => by
          by_cases e : j = k
          · rw [e]; exact hd
          · exact HA.out j (by omega))
        generalize (cs k).cl = v at *
        clear hd HA
        go_wp2
        go_roundw
        case rel =>
          first
            | exact ⟨k + 1, by omega, by go_num, HA2, trivial⟩
            | exact ⟨k + 1, by omega, by go_num, HA2, rfl⟩
            | (repeat apply Exists.intro
               refine ⟨?_, rfl⟩
               exact ⟨k + 1, by omega, by go_num, HA2, rfl⟩)
        case measure => simp [intOf]; omega
      · rw [if_neg hd] at f2
        have HD : Hid ((cs k).dv = false) := Lib.hid (by simpa using hd)
        clear hd HA
        go_wp2
        go_ret2
        exact ⟨k, hlt, HD.out, rfl, rfl⟩
    · exfalso
      obtain ⟨k0, h1, h2⟩ := HF.out
      have := HA.out k0 (by omega)
      rw [h2] at this
      cases this
end Go.Proofs.YtpihhlbfpbngaaaGreatDoor
namespace Go.Proofs.YtpihhlbfpbngaaaGreatDoor
open Go.RowKit Go.Maps
def IsRedo (s : Nat) (ws : List (Nat × Nat)) (p : List Ins) : Prop := (ws = [] ∧ p = []) ∨ (ws ≠ [] ∧ ∃ cm p1 p2 p3, cm < 18446744073709551616 ∧ IsStores (entW (64 * s) 0 ws) p1 ∧ IsStores [(64 * s, cm)] p2 ∧ IsTwo ws [(64 * s, 0)] p3 ∧ p = p1 ++ p2 ++ p3)
def flatW : List (Nat × Nat) → List Nat
  | [] => []
  | e :: l => e.1 :: e.2 :: flatW l
theorem flatW_snoc : ∀ (l : List (Nat × Nat)) (e : Nat × Nat), flatW (l ++ [e]) = flatW l ++ [e.1, e.2]
  | [], e => rfl
  | x :: l, e => by
    have := flatW_snoc l e
    simp [flatW, this]
theorem flatW_mem : ∀ (l : List (Nat × Nat)) (x : Nat), x ∈ flatW l → ∃ e ∈ l, x = e.1 ∨ x = e.2
  | [], x, h => by simp [flatW] at h
  | e :: l, x, h => by
    simp only [flatW, List.mem_cons] at h
    rcases h with h | h | h
    · exact ⟨e, by simp, .inl h⟩
    · exact ⟨e, by simp, .inr h⟩
    · obtain ⟨y, hy, h2⟩ := flatW_mem l x h
      exact ⟨y, by simp [hy], h2⟩
set_option maxRecDepth 100000 in
set_option maxHeartbeats 2000000 in
theorem planR_any {a : DA} {L T : Nat} {w : World} {S : Fp} {cur : Nat → Nat} {F : Nat} (h : Dev a L T w S cur F) (g s n : Nat) (hB : Blk w g 247 (logCells a s n)) (hs : s + n ≤ L) (hn : 26 ≤ n)
    (A : Option Addr) (N c : Nat) (ws : List (Nat × Nat)) (hr : Reads w w.heap.size 2 A N (wrCells ws)) (hd : Diff ws) (ho : ∀ e ∈ ws, OffOk L s n e.1) (hv : ∀ e ∈ ws, e.2 < 18446744073709551616) (hN : N ≤ 96) (hidle : cur (8 * s) = 0) (ht : Tab w) :
    Calls Tryz.prog 78 #[.pointer (some ⟨g, 0, none⟩), .slice A N c] w (RetPlan w (IsRedo s ws)) := by
  have hL : L ≤ 4096 := by obtain ⟨ls, exe, per, cs, lsC, hdc, hnt⟩ := h; exact hdc.hL
  have HD := Lib.hid h
  have HBB := Lib.hid hB
  have HRo := Lib.hid hr
  obtain ⟨i0, hi0, hz0, hz1, hz2⟩ := info_parts infoWrite
  obtain ⟨j0, hj0, hy0, hy1, hy2⟩ := info_parts infoU64
  have HTb := Lib.hid ht
  have HVal : Hid (∀ e ∈ ws, e.1 < 18446744073709551616 ∧ e.2 < 18446744073709551616) := Lib.hid (fun e he => ⟨by have := (ho e he).lt; omega, hv e he⟩)
  have hz64 : 64 * s ≤ 1000000 := by omega
  have HLN := Lib.hid (show ws.length = N by have := hr.1; rw [wrCells_len] at this; omega)
  have f0 : w.cell? ⟨g, 0, none⟩ = some (memV a) := hB.cell 0
  have hq := eqMem (some ⟨a.th 0, 0, none⟩)
  have hmE := methErr (some ⟨a.th 0, 0, none⟩)
  have hmL := methLoad (some ⟨a.th 0, 0, none⟩)
  have hna := aheadLoad ⟨a.th 0, 0, none⟩
  have HLd : Hid (∀ W, Below w.heap.size w W → Calls Tryz.prog 62 #[.pointer (some ⟨a.th 0, 0, none⟩), .int .u64 ((64 * s : Nat) : Int)] W fun e w' => e = .returned (.int .u64 0) ∧ W = w') := Lib.hid (fun W hW => load_at h (64 * s) 0 (by omega) (by omega) (by rw [show 64 * s / 8 = 8 * s by omega]; exact hidle) W hW)
  have HV1 : Hid (∀ i (h : i < ws.length), (ws[i]).1 < 18446744073709551616) := Lib.hid (fun i hi => by have := (ho _ (List.getElem_mem hi)).lt; omega)
  have HAl : Hid (∀ k (hk : k < ws.length) W, Below w.heap.size w W → Calls Tryz.prog 163 #[.pointer (some ⟨g, 0, none⟩), .int .u64 ((ws[k]).1 : Int)] W fun e w' => e = .returned (.bool true) ∧ Below W.heap.size W w') := Lib.hid (fun k hk W hW =>
    allowedR_any (h.below hW) g s n (hB.below hW hB.lt) hs _ (ho _ (List.getElem_mem hk)))
  have HEr : Hid (∀ W, Below w.heap.size w W → Calls Tryz.prog 76 #[.pointer (some ⟨a.th 0, 0, none⟩)] W fun e w' => e = .returned (.int .i64 0) ∧ W = w') := Lib.hid (fun W hW => err_dev (h.below hW) (j := 0) (by omega))
  have HLa : Hid (∀ W, Below w.heap.size w W → Calls Tryz.prog 164 #[.slice A N c] W (RetWr W ws)) := Lib.hid (fun W hW => last_any A N c ws W ((hr.below hW).more hW.size) hd HV1.out (by omega))
  have HB0 : Hid (Below w.heap.size w w) := Below.refl _ _
  clear h hB hr ho hd
  unfold memV at *
  go_enter Tryz.func78, Tryz.ntmps78
  go_wp2
  go_loopw [29] (fun i wr => ∃ (k : Nat), k ≤ N ∧ i = .int .i64 k ∧ Hid (Below w.heap.size w wr)) (fun i _ => N - (Go.RowKit.intOf i).toNat)
  case atStart => exact ⟨0, Nat.zero_le _, rfl, HB0⟩
  case round =>
    clear HB0
    obtain ⟨k, hk, rfl, H⟩ := hrel
    by_cases hlt : k < N
    · obtain ⟨hkl, b, off, hA, hbB, q0, q1⟩ := wr_facts (HRo.out.below H.out) hlt
      subst hA
      have hz5 : (0 : Int) ≤ (k : Int) := by omega
      have hz6 : (k : Int) < (N : Int) := by omega
      have hba : Below w.heap.size w (wr.alloc (.cells #[.int .u64 ((ws[k]).1 : Int), .int .u64 ((ws[k]).2 : Int)] 76)) := H.out.alloc H.out.size _
      have HA := Lib.hid (HAl.out k hkl _ hba)
      have HBa := Lib.hid hba
      clear hba
      generalize ws[k] = o at *
      go_wp2_with fail
      refine HA.out.mono ?_
      rintro e1 w2 ⟨rfl, hb2⟩
      have HB2 := Lib.hid (HBa.out.trans (hb2.mono HBa.out.size))
      clear hb2 HA H HBa
      go_wp2
      go_roundw
      case rel =>
        first
          | exact ⟨k + 1, by omega, by go_num, HB2⟩
          | (repeat apply Exists.intro
             refine ⟨?_, rfl⟩
             exact ⟨k + 1, by omega, by go_num, HB2⟩)
      case measure => simp [Go.RowKit.intOf]; omega
    · have hkN : k = N := by omega
      subst hkN
      clear HAl
      go_wp2_with fail
      refine (HLa.out wr H.out).mono ?_
      rintro e1 w1 ⟨A1, m1, c1, rfl, hm1, ho1, hb1⟩
      have HB1 := Lib.hid (H.out.trans (hb1.mono H.out.size))
      have HO1 := Lib.hid ho1
      have hmk : m1 = k := by have := HLN.out; omega
      subst hmk
      have g0 : w1.cell? ⟨g, 0, none⟩ = some (.iface 35 (.pointer (some ⟨a.th 0, 0, none⟩))) := (HBB.out.below HB1.out HBB.out.lt).cell 0
      have g1 : w1.cell? ⟨g, 1, none⟩ = some (.int .u64 ((64 * s : Nat) : Int)) := (HBB.out.below HB1.out HBB.out.lt).cell 1
      have HE1 := Lib.hid (HEr.out w1 HB1.out)
      clear hm1 ho1 hb1 HLa H
      go_wp2_with fail
      refine HE1.out.mono ?_
      rintro e w2 ⟨rfl, rfl⟩
      have HB1d := Lib.hid (below_drewN HB1.out 1)
      generalize hz : 64 * s = z at *
      have HZ := Lib.hid hz
      clear hz
      go_wp2_with fail
      go_cut [10] from 18 to 132 (fun v wx => v = .int .u64 0 ∧ Hid (Below w1.heap.size w1 wx))
      case first =>
        go_region_with (go_at_call 62; refine (HLd.out _ HB1d.out).mono ?_; rintro e w3 ⟨rfl, rfl⟩)
        all_goals (go_wp2_with fail; go_meet; exact ⟨rfl, (Below.refl _ w1).drew⟩)
      case rest =>
        obtain ⟨rfl, HW⟩ := hcut
        rename World => wz
        have HBz := Lib.hid (HB1.out.trans (HW.out.mono HB1.out.size))
        have HE2 := Lib.hid (HEr.out wz HBz.out)
        have HOz := Lib.hid (own_below HO1.out HW.out)
        clear HW HE1 HB1d HLd
        have hBk := HBB.out.below HBz.out HBB.out.lt
        have d0 : wz.cell? ⟨g, 0, none⟩ = some (.iface 35 (.pointer (some ⟨a.th 0, 0, none⟩))) := hBk.cell 0
        have d1 : wz.cell? ⟨g, 1, none⟩ = some (.int .u64 (z : Int)) := by rw [← HZ.out]; exact hBk.cell 1
        clear hBk g0 g1
        rcases Nat.eq_zero_or_pos m1 with h0 | h0
        · subst h0
          have hws : ws = [] := List.eq_nil_of_length_eq_zero HLN.out
          go_wp2_with fail
          refine HE2.out.mono ?_
          rintro e w2 ⟨rfl, rfl⟩
          go_wp2
          go_ret2
          exact ⟨_, _, _, [], rfl, .inl ⟨hws, rfl⟩, World.ownsRow_nil _ _ _ _, HBz.out⟩
        · have e9 : ((m1 : Int) == 0) = false := by rw [beq_eq_false_iff_ne]; omega
          have hrd := Lib.hid ((Reads.of_own HOz.out).more (Nat.le_refl _))
          have HO0 : Hid (wz.ownsRow wz.heap.size 76 2 (.slice none 0 0) 0 (wrCells (entW z 0 (ws.take 0)))) := World.ownsRow_nil _ _ _ _
          have HU0 : Hid (wz.ownsRow wz.heap.size 26 1 (.slice none 0 0) 0 (uCells (flatW (ws.take 0)))) := World.ownsRow_nil _ _ _ _
          have HQ0 : Hid (Below wz.heap.size wz wz) := Below.refl _ _
          clear hidle
          go_wp2_with fail
          refine HE2.out.mono ?_
          rintro e w2 ⟨rfl, rfl⟩
          clear HE2 hmE
          go_wp2
          go_loopw [12, 13, 78] (fun l u i wr => ∃ (t : Nat) (A2 : Option Addr) (m2 c2 : Nat) (A3 : Option Addr) (m3 c3 : Nat), t ≤ m1 ∧ i = .int .i64 t ∧ l = .slice A2 m2 c2 ∧ u = .slice A3 m3 c3 ∧ Hid (m2 = 2 * t ∧ m3 = 2 * t) ∧ Hid (wr.ownsRow wz.heap.size 76 2 (.slice A2 m2 c2) m2 (wrCells (entW z 0 (ws.take t)))) ∧ Hid (wr.ownsRow wz.heap.size 26 1 (.slice A3 m3 c3) m3 (uCells (flatW (ws.take t)))) ∧ Hid (Below wz.heap.size wz wr)) (fun _ _ i _ => m1 - (Go.RowKit.intOf i).toNat)
          case atStart => exact ⟨0, _, _, _, _, _, _, Nat.zero_le _, rfl, rfl, rfl, Lib.hid ⟨rfl, rfl⟩, HO0, HU0, HQ0⟩
          case round =>
            clear HO0 HU0 HQ0
            obtain ⟨t, A2, m2, c2, A3, m3, c3, ht, rfl, rfl, rfl, HM, HO, HU, HQ⟩ := hrel
            by_cases hlt4 : t < m1
            · obtain ⟨htl, b, off, hA, hbB, q0, q1⟩ := wr_facts (hrd.out.below HQ.out) hlt4
              subst hA
              have hz5 : (0 : Int) ≤ (t : Int) := by omega
              have hz6 : (t : Int) < (m1 : Int) := by omega
              have HTS := Lib.hid (takeS ws t htl)
              have HEn4 := Lib.hid (entW_snoc z (ws.take t) 0 (ws[t]))
              have HFl := Lib.hid (flatW_snoc (ws.take t) (ws[t]))
              rw [← HTS.out, show (ws.take t).length = t by simp; omega, Nat.zero_add] at HEn4
              rw [← HTS.out] at HFl
              generalize ws[t] = e at *
              have u1 : IntKind.u64.wrap ((z : Int) + 64) = ((z + 64 : Nat) : Int) := by rw [IntKind.wrap_u64]; omega
              have u2 : IntKind.u64.wrap (t : Int) = (t : Int) := by rw [IntKind.wrap_u64]; omega
              have u3 : IntKind.u64.wrap ((t : Int) * 16) = ((16 * t : Nat) : Int) := by rw [IntKind.wrap_u64]; omega
              have u4 : IntKind.u64.wrap (((z + 64 : Nat) : Int) + ((16 * t : Nat) : Int)) = ((z + 64 + 16 * t : Nat) : Int) := by rw [IntKind.wrap_u64]; omega
              have u5 : IntKind.u64.wrap (((z + 64 + 16 * t : Nat) : Int) + 8) = ((z + 64 + 16 * t + 8 : Nat) : Int) := by rw [IntKind.wrap_u64]; omega
              have hmm2 := HM.out.1
              have hmm3 := HM.out.2
              subst hmm2
              subst hmm3
              have HBk := Lib.hid (Blk.new wr 76 #[.int .u64 (e.1 : Int), .int .u64 (e.2 : Int)])
              have HOa := Lib.hid (HO.out.alloc (.cells #[.int .u64 (e.1 : Int), .int .u64 (e.2 : Int)] 76))
              have HUa := Lib.hid (HU.out.alloc (.cells #[.int .u64 (e.1 : Int), .int .u64 (e.2 : Int)] 76))
              have HQa := Lib.hid (HQ.out.alloc HQ.out.size (.cells #[.int .u64 (e.1 : Int), .int .u64 (e.2 : Int)] 76))
              have HNE : Hid (∀ g', (Value.slice A2 (2 * t) c2).ownBlock = some g' → g' < wr.heap.size) := fun g' hg' => (HO.out.lt g' hg').2
              have f1 : wr.cell? ⟨g, 1, none⟩ = some (.int .u64 (z : Int)) := (World.cell?_of_block (HQ.out.block g (by have := HBB.out.below HBz.out HBB.out.lt; exact this.lt))).trans d1
              have hlg : g < wr.heap.size := by have h1 := (HBB.out.below HBz.out HBB.out.lt).lt; have h2 := HQ.out.size; omega
              clear HO HQ HU HM
              generalize z + 64 + 16 * t + 8 = y2 at *
              generalize z + 64 + 16 * t = y at *
              generalize z + 64 = x at *
              generalize 16 * t = q at *
              go_wp2_with (at_builtin; refine stop ?_)
              unfold Stop
              refine wpList_app2 _ (.tmp 92) (.tmp 97) 69 rfl rfl wz.heap.size 76 i0 _ 2 16 Tryz.underlying69 hi0 hz0 hz1 hz2 rfl (by omega) (.slice A2 (2 * t) c2) (2 * t) (wrCells (entW z 0 (ws.take t))) rfl (HOa.out.alloc _) (wr.heap.size + 1 + 1) (some ⟨wr.heap.size + 1, 0, none⟩) 1 1 [.int .u64 (y : Int), .int .u64 (e.1 : Int)] rfl (row_reads_at _ _ (by simp) _ 1 2 76 _ rfl rfl) (u64s_one _ _) (by unfold maxLen; omega) (by omega) (by have := HQa.out.size; simp; simp at this; omega) ?_
              intro A4 n4 c4 w5 hn4 ho4 hg4 hp4
              have hb4 : Below wz.heap.size _ w5 := (Below.refl _ _).grown hg4 (by have := HQa.out.size; simp; simp at this; omega) (fun j hj => (HOa.out.lt j hj).1)
              have hk5 := (HBk.out.alloc (.cells #[.int .u64 (y : Int), .int .u64 (e.1 : Int)] 76)).grown hg4 (fun e => by have := HNE.out _ e.symm; omega)
              have HBk5 := Lib.hid hk5
              have d5 : w5.cell? ⟨wr.heap.size, 1, none⟩ = some (.int .u64 (e.2 : Int)) := hk5.cell 1
              have HO5 := Lib.hid ho4
              have HU5 := Lib.hid ((HUa.out.alloc (.cells #[.int .u64 (y : Int), .int .u64 (e.1 : Int)] 76)).kept hg4 (own_own_ne HUa.out HOa.out (by decide)))
              have HQ5 := Lib.hid ((HQa.out.alloc HQa.out.size _).trans hb4)
              have HN5 : Hid (∀ g', (Value.slice A4 n4 c4).ownBlock = some g' → g' ≠ wr.heap.size) := Lib.hid (fun g' hg' e => by
                rcases hp4 with h | h
                · have := HNE.out g' (h.symm.trans hg'); omega
                · rw [h] at hg'; simp at hg'; omega)
              have hn4' : n4 = 2 * t + 1 := by omega
              subst hn4'
              have hl5 : wr.heap.size < w5.heap.size := hk5.lt
              clear hn4 ho4 hg4 hb4 hp4 hk5 HBk HOa HUa HQa HNE
              go_wp2_with (at_builtin; refine stop ?_)
              unfold Stop
              refine wpList_app _ (.tmp 99) (.tmp 105) 69 rfl rfl wz.heap.size 76 i0 _ 2 16 Tryz.underlying69 hi0 hz0 hz1 hz2 rfl (by omega) (.slice A4 (2 * t + 1) c4) (2 * t + 1) _ rfl (HO5.out.alloc _) (w5.heap.size + 1) (some ⟨w5.heap.size, 0, none⟩) 1 1 [.int .u64 (y2 : Int), .int .u64 (e.2 : Int)] rfl (row_reads_at _ _ rfl _ 1 2 76 _ rfl rfl) (u64s_one _ _) (by unfold maxLen; omega) (by omega) (by have := HQ5.out.size; simp; omega) ?_
              intro A5 n5 c5 w6 hn5 ho5 hg5 hb5
              have HO6 : Hid (w6.ownsRow wz.heap.size 76 2 (.slice A5 n5 c5) n5 (wrCells (entW z 0 (ws.take (t + 1))))) := Lib.hid (by rw [HEn4.out, show ∀ l : List (Nat × Nat), l ++ [(y, e.1), (y2, e.2)] = (l ++ [(y, e.1)]) ++ [(y2, e.2)] from fun l => by simp, wrCells_snoc, wrCells_snoc]; exact ho5)
              have HQ6 := Lib.hid ((HQ5.out.alloc HQ5.out.size _).trans hb5)
              have HU6 := Lib.hid ((HU5.out.alloc (.cells #[.int .u64 (y2 : Int), .int .u64 (e.2 : Int)] 76)).kept hg5 (own_own_ne HU5.out HO5.out (by decide)))
              have hk6 := (HBk5.out.alloc (.cells #[.int .u64 (y2 : Int), .int .u64 (e.2 : Int)] 76)).grown hg5 (fun e => HN5.out _ e.symm rfl)
              have d6 : w6.cell? ⟨wr.heap.size, 0, none⟩ = some (.int .u64 (e.1 : Int)) := hk6.cell 0
              have d7 : w6.cell? ⟨wr.heap.size, 1, none⟩ = some (.int .u64 (e.2 : Int)) := hk6.cell 1
              have hl6 : wr.heap.size < w6.heap.size := hk6.lt
              have HN6 : Hid (n5 = 2 * (t + 1)) := Lib.hid (by omega)
              clear hn5 ho5 hg5 hb5 hk6 HO5 HU5 HQ5 HBk5 HN5 d5
              go_wp2_with (at_builtin; refine stop ?_)
              unfold Stop
              refine wpList_app _ (.tmp 107) (.tmp 112) 46 rfl rfl wz.heap.size 26 j0 _ 1 8 Tryz.underlying46 hj0 hy0 hy1 hy2 rfl (by omega) (.slice A3 (2 * t) c3) (2 * t) _ rfl (HU6.out.alloc _) (w6.heap.size + 1) (some ⟨w6.heap.size, 0, none⟩) 2 2 [.int .u64 (e.1 : Int), .int .u64 (e.2 : Int)] rfl (row_reads_at _ _ rfl _ 2 1 26 _ rfl rfl) (u64s_one _ _) (by unfold maxLen; omega) (by omega) (by have := HQ6.out.size; simp; omega) ?_
              intro A6 n6 c6 w7 hn6 ho6 hg6 hb6
              have HU7 : Hid (w7.ownsRow wz.heap.size 26 1 (.slice A6 n6 c6) n6 (uCells (flatW (ws.take (t + 1))))) := Lib.hid (by rw [HFl.out]; show w7.ownsRow _ _ _ _ _ (uCells (flatW (ws.take t) ++ [e.1, e.2])); unfold uCells; rw [List.map_append]; exact ho6)
              have HO7 := Lib.hid ((HO6.out.alloc (.cells #[.int .u64 (e.1 : Int), .int .u64 (e.2 : Int)] 26)).kept hg6 (own_own_ne HO6.out HU6.out (by decide)))
              have HQ7 := Lib.hid ((HQ6.out.alloc HQ6.out.size _).trans hb6)
              have HM7 : Hid (n5 = 2 * (t + 1) ∧ n6 = 2 * (t + 1)) := Lib.hid ⟨HN6.out, by omega⟩
              clear hn6 ho6 hg6 hb6 HO6 HU6 HQ6 HN6 d6 d7
              go_wp2
              go_roundw
              case rel =>
                first
                  | exact ⟨t + 1, _, _, _, _, _, _, by omega, by go_num, rfl, rfl, HM7, HO7, HU7, HQ7⟩
                  | (repeat apply Exists.intro
                     refine ⟨?_, rfl⟩
                     exact ⟨t + 1, _, _, _, _, _, _, by omega, by go_num, rfl, rfl, HM7, HO7, HU7, HQ7⟩)
              case measure => simp [Go.RowKit.intOf]; omega
            · have htm : m1 = t := by omega
              subst htm
              have htk : ws.take m1 = ws := List.take_of_length_le (by have := HLN.out; omega)
              rw [htk] at HO HU
              have hmm2 := HM.out.1
              have hmm3 := HM.out.2
              subst hmm2
              subst hmm3
              have HBr := Lib.hid (HBz.out.trans (HQ.out.mono HBz.out.size))
              have HWd := Lib.hid (words_any A3 (2 * m1) c3 wr.heap.size (flatW ws) wr (Reads.of_own HU.out) (fun x hx => by
                obtain ⟨e, he, h | h⟩ := flatW_mem ws x hx
                · rw [h]; exact (HVal.out e he).1
                · rw [h]; exact (HVal.out e he).2) (by omega) (HTb.out.below HBr.out))
              have u1 : IntKind.u64.wrap (m1 : Int) = (m1 : Int) := by rw [IntKind.wrap_u64]; omega
              go_wp2_with fail
              refine HWd.out.mono ?_
              rintro e w2 ⟨v, hv, rfl, rfl⟩
              have u2 : IntKind.u64.wrap (v : Int) = (v : Int) := by rw [IntKind.wrap_u64]; omega
              obtain ⟨cm, hcm, hcl⟩ : ∃ cm : Nat, bits BinOp.or IntKind.u64 (m1 : Int) ((v : Int) * 4294967296) = (cm : Int) ∧ cm < 18446744073709551616 := by
                refine ⟨m1 + v * 4294967296, ?_, by omega⟩
                have h := Go.u64_or32 (y := (m1 : Int)) (x := (v : Int) * 4294967296) (by omega) (by omega) (by omega) (by omega) (by omega)
                rw [h]
                omega
              have hfl : ws.length = m1 := HLN.out
              have HBk := Lib.hid (HBB.out.below HBr.out HBB.out.lt)
              have HSt := Lib.hid (stores_small A2 (2 * m1) c2 _ wr (Reads.of_own HO.out) (by omega) (by omega) (fun e he => by
                obtain ⟨j2, h1, h2, _⟩ := entW_mem _ _ _ _ he
                omega))
              have HMk : Hid (∀ W, Below wr.heap.size wr W → Calls Tryz.prog 133 #[.pointer (some ⟨g, 0, none⟩), .int .u64 (cm : Int)] W (RetProg W (IsStores [(z, cm)]))) := Lib.hid (fun W hW => by
                have h := mark_any a s n g cm W (HBk.out.below hW HBk.out.lt) (by omega)
                rw [HZ.out] at h
                exact h)
              have HFi : Hid (∀ W, Below wr.heap.size wr W → Calls Tryz.prog 166 #[.pointer (some ⟨g, 0, none⟩), .slice A1 m1 c1] W (RetProg W (IsTwo ws [(z, 0)]))) := Lib.hid (fun W hW => by
                have hr := hrd.out.below (HQ.out.trans (hW.mono HQ.out.size))
                have h := finish_any a s n g A1 m1 c1 ws W (hr.more (Nat.le_trans HQ.out.size hW.size)) h0 (by omega) (fun e he => (HVal.out e he).1) (HBk.out.below hW HBk.out.lt) (by omega)
                rw [HZ.out] at h
                exact h)
              clear HWd HU HO
              go_wp2_with fail
              refine HSt.out.mono ?_
              rintro e1 w4 ⟨B1, n1, d1, p1, rfl, hp1, ho1, hb1⟩
              have HP1 := Lib.hid hp1
              have HO1 := Lib.hid ho1
              have HB4 := Lib.hid hb1
              have HMk4 := Lib.hid (HMk.out w4 hb1)
              clear hp1 ho1 hb1 HSt
              go_wp2_with fail
              refine HMk4.out.mono ?_
              rintro e1 w5 ⟨B2, n2, d2', p2, rfl, hp2, ho2, hb2⟩
              have HP2 := Lib.hid hp2
              have HB5 := Lib.hid (HB4.out.trans (hb2.mono HB4.out.size))
              have hl1 : n1 ≤ 390 := by
                have h1 := HO1.out.1
                have h2 := isStores_len HP1.out
                rw [insCells_len] at h1
                rw [entW_len] at h2
                omega
              have hl2 : n2 ≤ 3 := by
                have h1 := ho2.1
                have h2 := isStores_len HP2.out
                rw [insCells_len] at h1
                simp at h2
                omega
              have HTh := Lib.hid (then_any B1 B2 n1 d1 n2 d2' p1 p2 w5 (Reads.of_own (own_below HO1.out hb2)) (Reads.of_own ho2) (by omega) (by omega))
              clear hp2 ho2 hb2 HMk4 HO1
              go_wp2_with fail
              refine HTh.out.mono ?_
              rintro e1 w6 ⟨B3, n3, d3, rfl, hn3, ho3, hb3⟩
              have HO3 := Lib.hid ho3
              have HB6 := Lib.hid (HB5.out.trans (hb3.mono HB5.out.size))
              have HFi6 := Lib.hid (HFi.out w6 HB6.out)
              have hl3 : n3 ≤ 393 := by omega
              clear hn3 ho3 hb3 HTh
              go_wp2_with fail
              refine HFi6.out.mono ?_
              rintro e1 w7 ⟨B4, n4, d4, p4, rfl, hp4, ho4, hb4⟩
              have HP4 := Lib.hid hp4
              have HB7 := Lib.hid (HB6.out.trans (hb4.mono HB6.out.size))
              have hl4 : n4 ≤ 200 := by
                have h1 := ho4.1
                have h2 := isTwo_len HP4.out
                rw [insCells_len] at h1
                simp at h2
                omega
              have HTh2 := Lib.hid (then_any B3 B4 n3 d3 n4 d4 (p1 ++ p2) p4 w7 (Reads.of_own (own_below HO3.out hb4)) (Reads.of_own ho4) (by omega) (by omega))
              clear hp4 ho4 hb4 HFi6 HO3
              go_wp2_with fail
              refine HTh2.out.mono ?_
              rintro e1 w8 ⟨B5, n5, d5, rfl, hn5, ho5, hb5⟩
              have HO5 := Lib.hid ho5
              have HB8 := Lib.hid (HBr.out.trans ((HB7.out.trans (hb5.mono HB7.out.size)).mono HBr.out.size))
              have HZ7 := Lib.hid (Nat.le_trans HBr.out.size HB7.out.size)
              clear hn5 ho5 hb5 HTh2
              go_wp2
              go_ret2
              have hz := HZ.out
              subst hz
              exact ⟨_, _, _, _, rfl, .inr ⟨fun h => by rw [h] at hfl; simp at hfl; omega, cm, p1, p2, p4, hcl, HP1.out, HP2.out, HP4.out, rfl⟩, own_le HO5.out HZ7.out, HB8.out⟩
end Go.Proofs.YtpihhlbfpbngaaaGreatDoor
