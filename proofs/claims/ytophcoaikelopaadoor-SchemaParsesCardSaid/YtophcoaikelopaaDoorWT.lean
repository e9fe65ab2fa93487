/- Walks: the reference's Valid. -/
import Derived.Test.YtophcoaikelopaaDoorWM
import Derived.Test.YtophcoaikelopaaDoorWN
import Derived.IntWalk
namespace Go.Proofs.YtophcoaikelopaaDoor
open Go.RowKit

theorem VInv.drewN {T : TypeId} {w wr : World} {arg : Array Value} (h : VInv T w wr arg) (n : Nat) : VInv T w (wr.drewN n) arg := ⟨below_drewN h.below n, h.arg⟩
/-- A name so far that may not be used. -/
def badAt (t : Tbl) (k : Nat) : Bool := !usable t.name || (t.cols.take k).any fun c => !usable c.name
theorem badAt_succ (t : Tbl) (k : Nat) (h : k < t.cols.length) : badAt t (k + 1) = (badAt t k || !usable t.cols[k].name) := by
  unfold badAt
  rw [List.take_succ_eq_append_getElem h, List.any_append, ← Bool.or_assoc]
  simp only [List.any_cons, List.any_nil, Bool.or_false]
theorem badAt_iff (t : Tbl) : badAt t t.cols.length = true ↔ BadName t := by
  unfold badAt BadName
  rw [List.take_length, Bool.or_eq_true, List.any_eq_true]
  refine or_congr (by simp) ⟨?_, ?_⟩
  · rintro ⟨c, hc, h⟩
    obtain ⟨k, hk, rfl⟩ := List.getElem_of_mem hc
    exact ⟨k, hk, by simpa using h⟩
  · rintro ⟨k, hk, h⟩
    exact ⟨_, List.getElem_mem hk, by simpa using h⟩
set_option maxRecDepth 100000 in
set_option maxHeartbeats 4000000 in
theorem refValid_walk (t : Tbl) (A A2 : Option Addr) (n c n2 c2 : Nat) (w : World) (hsz : Sized t) (hc : Reads w w.heap.size 9 A n (colCells t.cols)) (hx : Reads w w.heap.size 2 A2 n2 (idxCells t.idxs)) (hn : n ≤ 1000) (hn2 : n2 ≤ 1000) :
    Calls Tryd.prog 21 #[.agg #[.string t.name, .int .i64 t.ver, .slice A n c, .slice A2 n2 c2, .int .u64 (t.rows : Int), .int .u64 (t.ents : Int)]] w
      fun e w' => e = .returned (.int .i64 (valid t)) ∧ Below w.heap.size w w' := by
  obtain ⟨R, hR⟩ : ∃ R, R = valid t := ⟨_, rfl⟩
  rw [← hR]
  have HR := Lib.hid hR
  have HC := Lib.hid hc
  have HX := Lib.hid hx
  have HSZ := Lib.hid hsz
  have HLC := Lib.hid (show t.cols.length = n by have := hc.1; rw [colCells_len] at this; omega)
  have HLX := Lib.hid (show t.idxs.length = n2 by have := hx.1; rw [idxCells_len] at this; omega)
  clear hc hx hR hsz
  have HF : Hid (∀ W s, Below w.heap.size w W → Calls Tryd.prog 23 #[.agg #[.string t.name, .int .i64 t.ver, .slice A n c, .slice A2 n2 c2, .int .u64 (t.rows : Int), .int .u64 (t.ents : Int)], .string s] W fun e w' => e = .returned (.int .i64 (findC t.cols s)) ∧ Below W.heap.size W w') :=
    fun W s hb => refFind_any t.cols A n c s _ _ _ _ _ W ((HC.out.below hb).more hb.size) hn
  have HI : Hid (∀ W s, Below w.heap.size w W → Calls Tryd.prog 25 #[.agg #[.string t.name, .int .i64 t.ver, .slice A n c, .slice A2 n2 c2, .int .u64 (t.rows : Int), .int .u64 (t.ents : Int)], .string s] W fun e w' => e = .returned (.int .i64 (findI t.idxs s)) ∧ Below W.heap.size W w') :=
    fun W s hb => refIndex_any t.idxs A2 n2 c2 s _ _ _ _ _ W ((HX.out.below hb).more hb.size) hn2
  have HB0 : Hid ((!usable t.name) = badAt t 0) := show _ = _ by simp [badAt]
  have HNM := fun o => Lib.hid (refNamed_any t.name HSZ.out.name (w.alloc o))
  generalize usable t.name = ut at *
  have HVN := Lib.hid (VInv.new 44 w #[.string t.name, .int .i64 t.ver, .slice A n c, .slice A2 n2 c2, .int .u64 (t.rows : Int), .int .u64 (t.ents : Int)])
  go_enter Tryd.func21, Tryd.ntmps21
  go_wp2_with (go_at_call 38; refine (HNM _).out.mono ?_; rintro e w1 ⟨rfl, hb1⟩; have HV1 := Lib.hid (HVN.out.step hb1); have a2 : w1.cell? ⟨w.heap.size, 2, none⟩ = some (.slice A n c) := HV1.out.arg.cell 2; clear hb1)
  clear a2
  go_loopw [3, 23] (fun b i wr => ∃ (k : Nat) (bd : Bool), k ≤ n ∧ i = .int .i64 k ∧ b = .bool bd ∧ Hid (bd = badAt t k) ∧ Hid (VInv 44 w wr #[.string t.name, .int .i64 t.ver, .slice A n c, .slice A2 n2 c2, .int .u64 (t.rows : Int), .int .u64 (t.ents : Int)])) (fun _ i _ => n - (intOf i).toNat)
  case atStart => exact ⟨0, _, Nat.zero_le _, rfl, rfl, HB0, HV1⟩
  case round =>
    clear HV1
    obtain ⟨k, bd, hk, rfl, rfl, hbd, hinv⟩ := hrel
    by_cases hlt : k < n
    · obtain ⟨hl, b1, off, hA, hbB, f0, f1, f2, f3, f4, f5, f6, f7, f8⟩ := col_facts (HC.out.below hinv.out.below) hlt
      subst hA
      have HS1 := Lib.hid (HSZ.out.cols k hl).1
      have HBS := Lib.hid (badAt_succ t k hl)
      have HNC := fun o => Lib.hid (refNamed_any t.cols[k].name HS1.out (wr.alloc o))
      generalize usable t.cols[k].name = uc at *
      generalize t.cols[k] = cc at *
      cases bd with
      | true =>
        have HBE : Hid (true = badAt t (k + 1)) := show _ = _ by rw [HBS.out, ← hbd.out]; rfl
        go_wp2
        go_roundw
        case rel => exact ⟨k + 1, true, by omega, by go_num, rfl, HBE, hinv.out.alloc _⟩
        case measure => simp [intOf]; omega
      | false =>
        have HBE : Hid ((!uc) = badAt t (k + 1)) := show _ = _ by rw [HBS.out, ← hbd.out]; rfl
        go_wp2_with (go_at_call 38; refine (HNC _).out.mono ?_; rintro e w' ⟨rfl, hb9⟩)
        go_roundw
        case rel => exact ⟨k + 1, !uc, by omega, by go_num, rfl, HBE, (hinv.out.alloc _).step hb9⟩
        case measure => simp [intOf]; omega
    · obtain rfl : k = n := by omega
      cases bd with
      | true =>
        obtain rfl : R = 15 := HR.out.trans (valid_15 ((badAt_iff t).1 (by rw [HLC.out]; exact hbd.out.symm)))
        go_wp2
        go_ret
        exact ⟨rfl, hinv.out.below⟩
      | false =>
      have B0 : Hid (¬ BadName t) := fun h => by
        have := (badAt_iff t).2 h
        rw [HLC.out, ← hbd.out] at this
        cases this
      clear hbd
      have a2 : wr.cell? ⟨w.heap.size, 2, none⟩ = some (.slice A k c) := hinv.out.arg.cell 2
      have a3 : wr.cell? ⟨w.heap.size, 3, none⟩ = some (.slice A2 n2 c2) := hinv.out.arg.cell 3
      by_cases hbc : k = 0 ∨ 8 < k ∨ 4 < n2
      · obtain rfl : R = 9 := HR.out.trans (valid_9 B0.out (by unfold BadCount; rw [HLC.out, HLX.out]; exact hbc))
        clear hlt hk
        go_wp2
        all_goals first | (exfalso; omega) | skip
        all_goals (go_ret; exact ⟨rfl, hinv.out.below⟩)
      · have B1 : Hid (¬ BadCount t) := by unfold BadCount; rw [HLC.out, HLX.out]; exact hbc
        have hk0 : 0 < k := by omega
        have hk8 : k ≤ 8 := by omega
        have hn4 : n2 ≤ 4 := by omega
        have e0 : decide ((k : Int) < 1) = false := decide_eq_false (by omega)
        have e0' : decide (k < 1) = false := decide_eq_false (by omega)
        have e1 : decide ((8 : Int) < (k : Int)) = false := decide_eq_false (by omega)
        have e2 : decide (8 < k) = false := decide_eq_false (by omega)
        have e3 : decide ((4 : Int) < (n2 : Int)) = false := decide_eq_false (by omega)
        have e4 : decide (4 < n2) = false := decide_eq_false (by omega)
        clear hlt hk hbc hn hn2
        go_wp2
        clear e0 e0' e1 e2 e3 e4 a2 a3
        go_loopw [55] (fun i wr => ∃ q : Nat, q ≤ k ∧ i = .int .i64 q ∧ Hid (∀ j (_ : j < q) (h : j < t.cols.length), findC t.cols t.cols[j].name = j) ∧ Hid (VInv 44 w wr #[.string t.name, .int .i64 t.ver, .slice A k c, .slice A2 n2 c2, .int .u64 (t.rows : Int), .int .u64 (t.ents : Int)])) (fun i _ => k - (intOf i).toNat)
        case atStart => exact ⟨0, Nat.zero_le _, rfl, fun j hj => absurd hj (by omega), hinv⟩
        case round =>
          clear hinv
          obtain ⟨q, hq, rfl, hno, hinv⟩ := hrel
          by_cases hlt : q < k
          · obtain ⟨hl, b1, off, hA, hbB, f0, f1, f2, f3, f4, f5, f6, f7, f8⟩ := col_facts (HC.out.below hinv.out.below) hlt
            subst hA
            have g0 : ∀ o, (wr.alloc o).cell? ⟨w.heap.size, 0, none⟩ = some (.string t.name) := fun o => (hinv.out.alloc o).arg.cell 0
            have g1 : ∀ o, (wr.alloc o).cell? ⟨w.heap.size, 1, none⟩ = some (.int .i64 t.ver) := fun o => (hinv.out.alloc o).arg.cell 1
            have g2 : ∀ o, (wr.alloc o).cell? ⟨w.heap.size, 2, none⟩ = some (.slice (some ⟨b1, off, none⟩) k c) := fun o => (hinv.out.alloc o).arg.cell 2
            have g3 : ∀ o, (wr.alloc o).cell? ⟨w.heap.size, 3, none⟩ = some (.slice A2 n2 c2) := fun o => (hinv.out.alloc o).arg.cell 3
            have g4 : ∀ o, (wr.alloc o).cell? ⟨w.heap.size, 4, none⟩ = some (.int .u64 (t.rows : Int)) := fun o => (hinv.out.alloc o).arg.cell 4
            have g5 : ∀ o, (wr.alloc o).cell? ⟨w.heap.size, 5, none⟩ = some (.int .u64 (t.ents : Int)) := fun o => (hinv.out.alloc o).arg.cell 5
            have HFK := fun o => Lib.hid (HF.out (wr.alloc o) t.cols[q].name (hinv.out.alloc o).below)
            have HN : Hid (findC t.cols t.cols[q].name = q → ∀ j (_ : j < q + 1) (h : j < t.cols.length), findC t.cols t.cols[j].name = j) := fun h0 j hj h => by
              by_cases e : j = q
              · subst e; exact h0
              · exact hno.out j (by omega) h
            have HX9 : Hid (findC t.cols t.cols[q].name ≠ q → R = 6) := fun h0 => HR.out.trans (valid_6 B0.out B1.out ⟨q, hl, h0⟩)
            generalize findC t.cols t.cols[q].name = fd at *
            generalize t.cols[q] = cc at *
            by_cases hfd : fd = q
            · have HN1 := Lib.hid (HN.out hfd)
              have e1 : (fd != (q : Int)) = false := by simp [hfd]
              clear hfd
              go_wp2_with (go_at_call 23; refine (HFK _).out.mono ?_; rintro e w' ⟨rfl, hb9⟩)
              go_roundw
              case rel => exact ⟨q + 1, by omega, by go_num, HN1, (hinv.out.alloc _).step hb9⟩
              case measure => simp [intOf]; omega
            · obtain rfl := HX9.out hfd
              have e1 : (fd != (q : Int)) = true := by rw [bne_iff_ne]; exact hfd
              clear hfd
              go_wp2_with (go_at_call 23; refine (HFK _).out.mono ?_; rintro e w' ⟨rfl, hb9⟩)
              go_ret
              exact ⟨rfl, ((hinv.out.alloc _).step hb9).below⟩
          · obtain rfl : k = q := by omega
            have B2 : Hid (¬ BadCol t) := by
              rintro ⟨j, hj, h⟩
              exact h (hno.out j (by have := HLC.out; omega) hj)
            clear hno hlt hq
            have a3 : wr.cell? ⟨w.heap.size, 3, none⟩ = some (.slice A2 n2 c2) := hinv.out.arg.cell 3
            go_wp2
            clear a3
            go_loopw [70] (fun i wr => ∃ q : Nat, q ≤ n2 ∧ i = .int .i64 q ∧ Hid (∀ j (_ : j < q) (h : j < t.idxs.length), findI t.idxs t.idxs[j].col = j) ∧ Hid (VInv 44 w wr #[.string t.name, .int .i64 t.ver, .slice A k c, .slice A2 n2 c2, .int .u64 (t.rows : Int), .int .u64 (t.ents : Int)])) (fun i _ => n2 - (intOf i).toNat)
            case atStart => exact ⟨0, Nat.zero_le _, rfl, fun j hj => absurd hj (by omega), hinv⟩
            case round =>
              clear hinv
              obtain ⟨q, hq, rfl, hno, hinv⟩ := hrel
              by_cases hlt : q < n2
              · obtain ⟨hl, b1, off, hA, hbB, f0, f1⟩ := idx_facts (HX.out.below hinv.out.below) hlt
                subst hA

                have g0 : ∀ o, (wr.alloc o).cell? ⟨w.heap.size, 0, none⟩ = some (.string t.name) := fun o => (hinv.out.alloc o).arg.cell 0
                have g1 : ∀ o, (wr.alloc o).cell? ⟨w.heap.size, 1, none⟩ = some (.int .i64 t.ver) := fun o => (hinv.out.alloc o).arg.cell 1
                have g2 : ∀ o, (wr.alloc o).cell? ⟨w.heap.size, 2, none⟩ = some (.slice A k c) := fun o => (hinv.out.alloc o).arg.cell 2
                have g3 : ∀ o, (wr.alloc o).cell? ⟨w.heap.size, 3, none⟩ = some (.slice (some ⟨b1, off, none⟩) n2 c2) := fun o => (hinv.out.alloc o).arg.cell 3
                have g4 : ∀ o, (wr.alloc o).cell? ⟨w.heap.size, 4, none⟩ = some (.int .u64 (t.rows : Int)) := fun o => (hinv.out.alloc o).arg.cell 4
                have g5 : ∀ o, (wr.alloc o).cell? ⟨w.heap.size, 5, none⟩ = some (.int .u64 (t.ents : Int)) := fun o => (hinv.out.alloc o).arg.cell 5
                have HFK := fun o => Lib.hid (HI.out (wr.alloc o) t.idxs[q].col (hinv.out.alloc o).below)
                have HN : Hid (findI t.idxs t.idxs[q].col = q → ∀ j (_ : j < q + 1) (h : j < t.idxs.length), findI t.idxs t.idxs[j].col = j) := fun h0 j hj h => by
                  by_cases e : j = q
                  · subst e; exact h0
                  · exact hno.out j (by omega) h
                have HX9 : Hid (findI t.idxs t.idxs[q].col ≠ q → R = 6) := fun h0 => HR.out.trans (valid_6i B0.out B1.out B2.out ⟨q, hl, h0⟩)
                generalize findI t.idxs t.idxs[q].col = fd at *
                generalize t.idxs[q] = cc at *
                by_cases hfd : fd = q
                · have HN1 := Lib.hid (HN.out hfd)
                  have e1 : (fd != (q : Int)) = false := by simp [hfd]
                  clear hfd
                  go_wp2_with (go_at_call 25; refine (HFK _).out.mono ?_; rintro e w' ⟨rfl, hb9⟩)
                  go_roundw
                  case rel => exact ⟨q + 1, by omega, by go_num, HN1, (hinv.out.alloc _).step hb9⟩
                  case measure => simp [intOf]; omega
                · obtain rfl := HX9.out hfd
                  have e1 : (fd != (q : Int)) = true := by rw [bne_iff_ne]; exact hfd
                  clear hfd
                  go_wp2_with (go_at_call 25; refine (HFK _).out.mono ?_; rintro e w' ⟨rfl, hb9⟩)
                  go_ret
                  exact ⟨rfl, ((hinv.out.alloc _).step hb9).below⟩
              · obtain rfl : n2 = q := by omega
                have B3 : Hid (¬ BadIdx t) := by
                  rintro ⟨j, hj, h⟩
                  exact h (hno.out j (by have := HLX.out; omega) hj)
                clear hno hlt hq
                have a3 : wr.cell? ⟨w.heap.size, 3, none⟩ = some (.slice A2 n2 c2) := hinv.out.arg.cell 3
                go_wp2
                clear a3
                go_loopw [85] (fun i wr => ∃ q : Nat, q ≤ n2 ∧ i = .int .i64 q ∧ Hid (∀ j (_ : j < q) (h : j < t.idxs.length), 0 ≤ findC t.cols t.idxs[j].col) ∧ Hid (VInv 44 w wr #[.string t.name, .int .i64 t.ver, .slice A k c, .slice A2 n2 c2, .int .u64 (t.rows : Int), .int .u64 (t.ents : Int)])) (fun i _ => n2 - (intOf i).toNat)
                case atStart => exact ⟨0, Nat.zero_le _, rfl, fun j hj => absurd hj (by omega), hinv⟩
                case round =>
                  clear hinv
                  obtain ⟨q, hq, rfl, hno, hinv⟩ := hrel
                  by_cases hlt : q < n2
                  · obtain ⟨hl, b1, off, hA, hbB, f0, f1⟩ := idx_facts (HX.out.below hinv.out.below) hlt
                    subst hA

                    have g0 : ∀ o, (wr.alloc o).cell? ⟨w.heap.size, 0, none⟩ = some (.string t.name) := fun o => (hinv.out.alloc o).arg.cell 0
                    have g1 : ∀ o, (wr.alloc o).cell? ⟨w.heap.size, 1, none⟩ = some (.int .i64 t.ver) := fun o => (hinv.out.alloc o).arg.cell 1
                    have g2 : ∀ o, (wr.alloc o).cell? ⟨w.heap.size, 2, none⟩ = some (.slice A k c) := fun o => (hinv.out.alloc o).arg.cell 2
                    have g3 : ∀ o, (wr.alloc o).cell? ⟨w.heap.size, 3, none⟩ = some (.slice (some ⟨b1, off, none⟩) n2 c2) := fun o => (hinv.out.alloc o).arg.cell 3
                    have g4 : ∀ o, (wr.alloc o).cell? ⟨w.heap.size, 4, none⟩ = some (.int .u64 (t.rows : Int)) := fun o => (hinv.out.alloc o).arg.cell 4
                    have g5 : ∀ o, (wr.alloc o).cell? ⟨w.heap.size, 5, none⟩ = some (.int .u64 (t.ents : Int)) := fun o => (hinv.out.alloc o).arg.cell 5
                    have HFK := fun o => Lib.hid (HF.out (wr.alloc o) t.idxs[q].col (hinv.out.alloc o).below)
                    have HN : Hid (0 ≤ findC t.cols t.idxs[q].col → ∀ j (_ : j < q + 1) (h : j < t.idxs.length), 0 ≤ findC t.cols t.idxs[j].col) := fun h0 j hj h => by
                      by_cases e : j = q
                      · subst e; exact h0
                      · exact hno.out j (by omega) h
                    have HX9 : Hid (findC t.cols t.idxs[q].col < 0 → R = 5) := fun h0 => HR.out.trans (valid_5 B0.out B1.out B2.out B3.out ⟨q, hl, h0⟩)
                    generalize findC t.cols t.idxs[q].col = fd at *
                    generalize t.idxs[q] = cc at *
                    by_cases hfd : fd < 0
                    · obtain rfl := HX9.out hfd
                      go_wp2_with (go_at_call 23; refine (HFK _).out.mono ?_; rintro e w' ⟨rfl, hb9⟩)
                      go_ret
                      exact ⟨rfl, ((hinv.out.alloc _).step hb9).below⟩
                    · have HN1 := Lib.hid (HN.out (by omega))
                      go_wp2_with (go_at_call 23; refine (HFK _).out.mono ?_; rintro e w' ⟨rfl, hb9⟩)
                      go_roundw
                      case rel => exact ⟨q + 1, by omega, by go_num, HN1, (hinv.out.alloc _).step hb9⟩
                      case measure => simp [intOf]; omega
                  · obtain rfl : n2 = q := by omega
                    have B4 : Hid (¬ BadRef t) := by
                      rintro ⟨j, hj, h⟩
                      have := hno.out j (by have := HLX.out; omega) hj
                      omega
                    clear hno hlt hq
                    have a2 : wr.cell? ⟨w.heap.size, 2, none⟩ = some (.slice A k c) := hinv.out.arg.cell 2
                    go_wp2
                    clear a2
                    go_loopw [98] (fun i wr => ∃ q : Nat, q ≤ k ∧ i = .int .i64 q ∧ Hid (∀ j (_ : j < q) (h : j < t.cols.length), fits t.cols[j] t.cols[j].d = 0) ∧ Hid (VInv 44 w wr #[.string t.name, .int .i64 t.ver, .slice A k c, .slice A2 n2 c2, .int .u64 (t.rows : Int), .int .u64 (t.ents : Int)])) (fun i _ => k - (intOf i).toNat)
                    case atStart => exact ⟨0, Nat.zero_le _, rfl, fun j hj => absurd hj (by omega), hinv⟩
                    case round =>
                      clear hinv
                      obtain ⟨q, hq, rfl, hno, hinv⟩ := hrel
                      by_cases hlt : q < k
                      · obtain ⟨hl, b1, off, hA, hbB, f0, f1, f2, f3, f4, f5, f6, f7, f8⟩ := col_facts (HC.out.below hinv.out.below) hlt
                        subst hA

                        have HFK := fun o => Lib.hid (refFits_any t.cols[q] t.cols[q].d (wr.alloc o) (HSZ.out.cols q hl).2)
                        have HN : Hid (fits t.cols[q] t.cols[q].d = 0 → ∀ j (_ : j < q + 1) (h : j < t.cols.length), fits t.cols[j] t.cols[j].d = 0) := fun h0 j hj h => by
                          by_cases e : j = q
                          · subst e; exact h0
                          · exact hno.out j (by omega) h
                        have HX9 : Hid (fits t.cols[q] t.cols[q].d ≠ 0 → R = 16) := fun h0 => HR.out.trans (valid_16 B0.out B1.out B2.out B3.out B4.out ⟨q, hl, h0⟩)
                        generalize fits t.cols[q] t.cols[q].d = fd at *
                        generalize t.cols[q] = cc at *
                        by_cases hfd : fd = 0
                        · have HN1 := Lib.hid (HN.out hfd)
                          have e1 : (fd != 0) = false := by simp [hfd]
                          clear hfd
                          go_wp2_with (go_at_call 13; refine (HFK _).out.mono ?_; rintro e w' ⟨rfl, hb9⟩)
                          go_roundw
                          case rel => exact ⟨q + 1, by omega, by go_num, HN1, (hinv.out.alloc _).step hb9⟩
                          case measure => simp [intOf]; omega
                        · obtain rfl := HX9.out hfd
                          have e1 : (fd != 0) = true := by rw [bne_iff_ne]; exact hfd
                          clear hfd
                          go_wp2_with (go_at_call 13; refine (HFK _).out.mono ?_; rintro e w' ⟨rfl, hb9⟩)
                          go_ret
                          exact ⟨rfl, ((hinv.out.alloc _).step hb9).below⟩
                      · obtain rfl : k = q := by omega
                        have B5 : Hid (¬ BadFit t) := by
                          rintro ⟨j, hj, h⟩
                          exact h (hno.out j (by have := HLC.out; omega) hj)
                        clear hno hlt hq
                        have a1 : wr.cell? ⟨w.heap.size, 1, none⟩ = some (.int .i64 t.ver) := hinv.out.arg.cell 1
                        have a2 : wr.cell? ⟨w.heap.size, 2, none⟩ = some (.slice A k c) := hinv.out.arg.cell 2
                        have HX9 : Hid (BadVer t → R = 14) := fun h0 => HR.out.trans (valid_14 B0.out B1.out B2.out B3.out B4.out B5.out h0)
                        by_cases hv1 : t.ver < 1
                        · obtain rfl := HX9.out (.inl hv1)
                          go_wp2
                          go_ret
                          exact ⟨rfl, hinv.out.below⟩
                        by_cases hv2 : 65535 < t.ver
                        · obtain rfl := HX9.out (.inr (.inl hv2))
                          go_wp2
                          go_ret
                          exact ⟨rfl, hinv.out.below⟩
                        go_wp2
                        clear a1 a2
                        go_loopw [119] (fun i wr => ∃ q : Nat, q ≤ k ∧ i = .int .i64 q ∧ Hid (∀ j (_ : j < q) (h : j < t.cols.length), ¬ ((j = 0 ∧ t.cols[j].since ≠ 1) ∨ t.cols[j].since < sinceAt t j ∨ t.ver < t.cols[j].since)) ∧ Hid (VInv 44 w wr #[.string t.name, .int .i64 t.ver, .slice A k c, .slice A2 n2 c2, .int .u64 (t.rows : Int), .int .u64 (t.ents : Int)])) (fun i _ => k - (intOf i).toNat)
                        case atStart => exact ⟨0, Nat.zero_le _, rfl, fun j hj => absurd hj (by omega), hinv⟩
                        case round =>
                          clear hinv
                          obtain ⟨q, hq, rfl, hno, hinv⟩ := hrel
                          by_cases hlt : q < k
                          · obtain ⟨hlq, b2, off2, hA, hbB2, f0, f1, f2, f3, f4, f5, f6, f7, f8⟩ := col_facts (HC.out.below hinv.out.below) hlt
                            subst hA
                            have g1 : ∀ o, (wr.alloc o).cell? ⟨w.heap.size, 1, none⟩ = some (.int .i64 t.ver) := fun o => (hinv.out.alloc o).arg.cell 1
                            have g2 : ∀ o, (wr.alloc o).cell? ⟨w.heap.size, 2, none⟩ = some (.slice (some ⟨b2, off2, none⟩) k c) := fun o => (hinv.out.alloc o).arg.cell 2
                            have HN : Hid (¬ ((q = 0 ∧ t.cols[q].since ≠ 1) ∨ t.cols[q].since < sinceAt t q ∨ t.ver < t.cols[q].since) → ∀ j (_ : j < q + 1) (h : j < t.cols.length), ¬ ((j = 0 ∧ t.cols[j].since ≠ 1) ∨ t.cols[j].since < sinceAt t j ∨ t.ver < t.cols[j].since)) := fun h0 j hj h => by
                              by_cases e : j = q
                              · subst e; exact h0
                              · exact hno.out j (by omega) h
                            have HX8 : Hid ((q = 0 ∧ t.cols[q].since ≠ 1) ∨ t.cols[q].since < sinceAt t q ∨ t.ver < t.cols[q].since → R = 14) := fun h0 => HX9.out (.inr (.inr ⟨q, hlq, h0⟩))
                            have hz0 : (0 : Int) ≤ (q : Int) := by omega
                            have hz1 : (q : Int) < (k : Int) := by omega
                            by_cases hq0 : q = 0
                            · have HSA : Hid (sinceAt t q = 1) := show _ = _ by rw [hq0]; rfl
                              rw [HSA.out] at HN HX8
                              generalize t.cols[q] = cc at *
                              have e0 : ((q : Int) == 0) = true := by rw [beq_iff_eq]; omega
                              have e1 : decide ((0 : Int) < (q : Int)) = false := decide_eq_false (by omega)
                              have e2 : decide (0 < q) = false := decide_eq_false (by omega)
                              by_cases hs1 : cc.since = 1
                              · have HN1 := Lib.hid (HN.out (by omega))
                                have e3 : (cc.since != 1) = false := by simp [hs1]
                                have e4 : decide (t.ver < cc.since) = false := decide_eq_false (by omega)
                                clear hs1 hq0
                                go_wp2
                                go_quiet (fail)
                                go_wp2
                                go_roundw
                                case rel => exact ⟨q + 1, by omega, by go_num, HN1, (hinv.out.alloc _).drewN _⟩
                                case measure => simp [intOf]; omega
                              · obtain rfl := HX8.out (.inl ⟨hq0, hs1⟩)
                                have e3 : (cc.since != 1) = true := by rw [bne_iff_ne]; exact hs1
                                clear hs1 hq0
                                go_wp2
                                go_quiet (fail)
                                go_wp2
                                go_ret
                                exact ⟨rfl, ((hinv.out.alloc _).drewN _).below⟩
                            · obtain ⟨p, rfl⟩ : ∃ p, q = p + 1 := ⟨q - 1, by omega⟩
                              have HSA : Hid (sinceAt t (p + 1) = (t.cols[p]'(by omega)).since) := show _ = _ by rw [sinceAt, dif_pos (by omega)]
                              rw [HSA.out] at HN HX8
                              obtain ⟨hlp, b3, off3, hA3, _, _, _, _, p3, _⟩ := col_facts (HC.out.below hinv.out.below) (show p < k by omega)
                              injection hA3 with hA3
                              injection hA3 with hA31 hA32
                              subst hA31 hA32
                              have p3' : ∀ o, (wr.alloc o).cell? ⟨b2, off2 + p * 9 + 3, none⟩ = some (.int .i64 t.cols[p].since) := fun o => (World.cell?_alloc_lt wr o _ (Nat.lt_of_lt_of_le hbB2 hinv.out.below.size)).trans p3
                              generalize t.cols[p].since = ps at *
                              generalize t.cols[p + 1] = cc at *
                              have e0 : ((p : Int) + 1 == 0) = false := by rw [beq_eq_false_iff_ne]; omega
                              have e1 : decide ((0 : Int) < (p : Int) + 1) = true := decide_eq_true (by omega)
                              have e1' : decide (0 < p + 1) = true := decide_eq_true (by omega)
                              have hp0 : (0 : Int) ≤ (p : Int) := by omega
                              have hp1 : (p : Int) < (k : Int) := by omega
                              have hp2 : ((p : Int) + 1) - 1 = p := by omega
                              have hpw : IntKind.i64.wrap ((p : Int) + 1 - 1) = p := by rw [hp2]; exact IntWalk.i64_in _ (by omega)
                              by_cases h1 : cc.since < ps
                              · obtain rfl := HX8.out (.inr (.inl h1))
                                have d1 : decide (cc.since < ps) = true := decide_eq_true h1
                                go_wp2
                                go_quiet (fail)
                                go_wp2
                                go_ret
                                exact ⟨rfl, ((hinv.out.alloc _).drewN _).below⟩
                              · have d1 : decide (cc.since < ps) = false := decide_eq_false h1
                                by_cases h2 : t.ver < cc.since
                                · obtain rfl := HX8.out (.inr (.inr h2))
                                  have d2 : decide (t.ver < cc.since) = true := decide_eq_true h2
                                  go_wp2
                                  go_quiet (fail)
                                  go_wp2
                                  go_ret
                                  exact ⟨rfl, ((hinv.out.alloc _).drewN _).below⟩
                                · have HN1 := Lib.hid (HN.out (by omega))
                                  have d2 : decide (t.ver < cc.since) = false := decide_eq_false h2
                                  go_wp2
                                  go_quiet (fail)
                                  clear hp2 hpw
                                  go_wp2
                                  go_roundw
                                  case rel => exact ⟨p + 1 + 1, by omega, by go_num, HN1, (hinv.out.alloc _).drewN _⟩
                                  case measure => simp [intOf]; omega
                          · obtain rfl : k = q := by omega
                            have HE : Hid (R = 0) := by
                              refine HR.out.trans (valid_0 B0.out B1.out B2.out B3.out B4.out B5.out ?_)
                              rintro (h | h | ⟨j, hj, h⟩)
                              · omega
                              · omega
                              · exact hno.out j (by have := HLC.out; omega) hj h
                            obtain rfl := HE.out
                            go_wp2
                            go_ret
                            exact ⟨rfl, hinv.out.below⟩
end Go.Proofs.YtophcoaikelopaaDoor
