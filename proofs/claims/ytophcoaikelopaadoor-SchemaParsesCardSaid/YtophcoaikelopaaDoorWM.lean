/- Walks: Valid. -/
import Derived.Test.YtophcoaikelopaaDoorWI
import Derived.Test.YtophcoaikelopaaDoorWK
namespace Go.Proofs.YtophcoaikelopaaDoor
open Go.RowKit

def BadName (t : Tbl) : Prop := usable t.name = false ∨ ∃ k, ∃ h : k < t.cols.length, usable t.cols[k].name = false
def BadCount (t : Tbl) : Prop := t.cols.length = 0 ∨ 8 < t.cols.length ∨ 4 < t.idxs.length
def BadCol (t : Tbl) : Prop := ∃ k, ∃ h : k < t.cols.length, findC t.cols t.cols[k].name ≠ k
def BadIdx (t : Tbl) : Prop := ∃ k, ∃ h : k < t.idxs.length, findI t.idxs t.idxs[k].col ≠ k
def BadRef (t : Tbl) : Prop := ∃ k, ∃ h : k < t.idxs.length, findC t.cols t.idxs[k].col < 0
def BadFit (t : Tbl) : Prop := ∃ k, ∃ h : k < t.cols.length, fits t.cols[k] t.cols[k].d ≠ 0
/-- The version before column k. -/
def sinceAt (t : Tbl) : Nat → Int
  | 0 => 1
  | k + 1 => if h : k < t.cols.length then t.cols[k].since else 1
def BadVer (t : Tbl) : Prop := t.ver < 1 ∨ 65535 < t.ver ∨ ∃ k, ∃ h : k < t.cols.length, (k = 0 ∧ t.cols[k].since ≠ 1) ∨ t.cols[k].since < sinceAt t k ∨ t.ver < t.cols[k].since
open Classical in
/-- The error of a definition. -/
noncomputable def valid (t : Tbl) : Int :=
  if BadName t then 15 else if BadCount t then 9 else if BadCol t then 6 else if BadIdx t then 6 else if BadRef t then 5 else if BadFit t then 16 else if BadVer t then 14 else 0
section
variable {t : Tbl}
theorem valid_15 (h : BadName t) : valid t = 15 := by unfold valid; rw [if_pos h]
theorem valid_9 (h0 : ¬ BadName t) (h : BadCount t) : valid t = 9 := by unfold valid; rw [if_neg h0, if_pos h]
theorem valid_6 (h0 : ¬ BadName t) (h1 : ¬ BadCount t) (h : BadCol t) : valid t = 6 := by unfold valid; rw [if_neg h0, if_neg h1, if_pos h]
theorem valid_6i (h0 : ¬ BadName t) (h1 : ¬ BadCount t) (h2 : ¬ BadCol t) (h : BadIdx t) : valid t = 6 := by unfold valid; rw [if_neg h0, if_neg h1, if_neg h2, if_pos h]
theorem valid_5 (h0 : ¬ BadName t) (h1 : ¬ BadCount t) (h2 : ¬ BadCol t) (h3 : ¬ BadIdx t) (h : BadRef t) : valid t = 5 := by unfold valid; rw [if_neg h0, if_neg h1, if_neg h2, if_neg h3, if_pos h]
theorem valid_16 (h0 : ¬ BadName t) (h1 : ¬ BadCount t) (h2 : ¬ BadCol t) (h3 : ¬ BadIdx t) (h4 : ¬ BadRef t) (h : BadFit t) : valid t = 16 := by unfold valid; rw [if_neg h0, if_neg h1, if_neg h2, if_neg h3, if_neg h4, if_pos h]
theorem valid_14 (h0 : ¬ BadName t) (h1 : ¬ BadCount t) (h2 : ¬ BadCol t) (h3 : ¬ BadIdx t) (h4 : ¬ BadRef t) (h5 : ¬ BadFit t) (h : BadVer t) : valid t = 14 := by unfold valid; rw [if_neg h0, if_neg h1, if_neg h2, if_neg h3, if_neg h4, if_neg h5, if_pos h]
theorem valid_0 (h0 : ¬ BadName t) (h1 : ¬ BadCount t) (h2 : ¬ BadCol t) (h3 : ¬ BadIdx t) (h4 : ¬ BadRef t) (h5 : ¬ BadFit t) (h6 : ¬ BadVer t) : valid t = 0 := by unfold valid; rw [if_neg h0, if_neg h1, if_neg h2, if_neg h3, if_neg h4, if_neg h5, if_neg h6]
end
/-- All strings of a table have a length. -/
structure Sized (t : Tbl) : Prop where
  name : t.name.size ≤ 9223372036854775807
  cols : ∀ k (h : k < t.cols.length), t.cols[k].name.size ≤ 9223372036854775807 ∧ t.cols[k].d.text.size ≤ 9223372036854775807
/-- What stands in memory while 'Valid' runs. -/
structure VInv (T : TypeId) (w wr : World) (arg : Array Value) : Prop where
  below : Below w.heap.size w wr
  arg : Blk wr w.heap.size T arg
theorem VInv.step {T : TypeId} {w wr w1 : World} {arg : Array Value} (h : VInv T w wr arg) (hb : Below wr.heap.size wr w1) : VInv T w w1 arg := ⟨h.below.trans (hb.mono h.below.size), h.arg.below hb h.arg.lt⟩
theorem VInv.alloc {T : TypeId} {w wr : World} {arg : Array Value} (h : VInv T w wr arg) (o : Obj) : VInv T w (wr.alloc o) arg := h.step ((Below.refl _ _).alloc (Nat.le_refl _) o)
theorem VInv.new (T : TypeId) (w : World) (arg : Array Value) : VInv T w (w.alloc (.cells arg T)) arg := ⟨(Below.refl _ _).alloc (Nat.le_refl _) _, Blk.new w T arg⟩

set_option maxRecDepth 100000 in
set_option maxHeartbeats 4000000 in
theorem valid_walk (t : Tbl) (A A2 : Option Addr) (n c n2 c2 : Nat) (w : World) (hT : Tabs w) (hsz : Sized t) (hc : Reads w w.heap.size 9 A n (colCells t.cols)) (hx : Reads w w.heap.size 2 A2 n2 (idxCells t.idxs)) (hn : n ≤ 1000) (hn2 : n2 ≤ 1000) :
    Calls Tryd.prog 19 #[.agg #[.string t.name, .int .i64 t.ver, .slice A n c, .slice A2 n2 c2, .int .u64 (t.rows : Int), .int .u64 (t.ents : Int)]] w
      fun e w' => e = .returned (.int .i64 (valid t)) ∧ Below w.heap.size w w' := by
  obtain ⟨R, hR⟩ : ∃ R, R = valid t := ⟨_, rfl⟩
  rw [← hR]
  have HR := Lib.hid hR
  have HC := Lib.hid hc
  have HX := Lib.hid hx
  have HSZ := Lib.hid hsz
  have HT := Lib.hid hT
  have HLC := Lib.hid (show t.cols.length = n by have := hc.1; rw [colCells_len] at this; omega)
  have HLX := Lib.hid (show t.idxs.length = n2 by have := hx.1; rw [idxCells_len] at this; omega)
  clear hc hx hR hsz hT
  have HF : Hid (∀ W s, Below w.heap.size w W → Calls Tryd.prog 22 #[.agg #[.string t.name, .int .i64 t.ver, .slice A n c, .slice A2 n2 c2, .int .u64 (t.rows : Int), .int .u64 (t.ents : Int)], .string s] W fun e w' => e = .returned (.int .i64 (findC t.cols s)) ∧ Below W.heap.size W w') :=
    fun W s hb => find_any t.cols A n c s _ _ _ _ _ W ((HC.out.below hb).more hb.size) hn
  have HI : Hid (∀ W s, Below w.heap.size w W → Calls Tryd.prog 24 #[.agg #[.string t.name, .int .i64 t.ver, .slice A n c, .slice A2 n2 c2, .int .u64 (t.rows : Int), .int .u64 (t.ents : Int)], .string s] W fun e w' => e = .returned (.int .i64 (findI t.idxs s)) ∧ Below W.heap.size W w') :=
    fun W s hb => index_any t.idxs A2 n2 c2 s _ _ _ _ _ W ((HX.out.below hb).more hb.size) hn2
  cases hu : usable t.name with
  | false =>
    obtain rfl : R = 15 := HR.out.trans (valid_15 (.inl hu))
    have HU := Lib.hid hu
    clear hu
    go_enter Tryd.func19, Tryd.ntmps19
    go_wp2_with (go_at_call 37; refine (named_any t.name HSZ.out.name _).mono ?_; rw [HU.out]; rintro e w' ⟨rfl, rfl⟩)
    go_ret
    exact ⟨rfl, (Below.refl _ _).alloc (Nat.le_refl _) _⟩
  | true =>
  have HU := Lib.hid hu
  clear hu
  go_enter Tryd.func19, Tryd.ntmps19
  go_wp2_with (go_at_call 37; refine (named_any t.name HSZ.out.name _).mono ?_; rw [HU.out]; rintro e w' ⟨rfl, rfl⟩)
  go_loopw [23] (fun i wr => ∃ k : Nat, k ≤ n ∧ i = .int .i64 k ∧ Hid (∀ j (_ : j < k) (h : j < t.cols.length), usable t.cols[j].name = true) ∧ Hid (VInv 51 w wr #[.string t.name, .int .i64 t.ver, .slice A n c, .slice A2 n2 c2, .int .u64 (t.rows : Int), .int .u64 (t.ents : Int)])) (fun i _ => n - (intOf i).toNat)
  case atStart => exact ⟨0, Nat.zero_le _, rfl, fun j hj => absurd hj (by omega), VInv.new _ _ _⟩
  case round =>
    obtain ⟨k, hk, rfl, hno, hinv⟩ := hrel
    by_cases hlt : k < n
    · obtain ⟨hl, b1, off, hA, hbB, f0, f1, f2, f3, f4, f5, f6, f7, f8⟩ := col_facts (HC.out.below hinv.out.below) hlt
      subst hA
      have HS1 := Lib.hid (HSZ.out.cols k hl).1
      cases hq : usable t.cols[k].name with
      | false =>
        obtain rfl : R = 15 := HR.out.trans (valid_15 (.inr ⟨k, hl, hq⟩))
        have HQ := Lib.hid hq
        clear hq
        generalize t.cols[k] = cc at *
        go_wp2_with (go_at_call 37; refine (named_any cc.name HS1.out _).mono ?_; rw [HQ.out]; rintro e w' ⟨rfl, rfl⟩)
        go_ret
        exact ⟨rfl, (hinv.out.alloc _).below⟩
      | true =>
        have HN : Hid (∀ j (_ : j < k + 1) (h : j < t.cols.length), usable t.cols[j].name = true) := fun j hj h => by
          by_cases e : j = k
          · subst e; exact hq
          · exact hno.out j (by omega) h
        have HQ := Lib.hid hq
        clear hq
        generalize t.cols[k] = cc at *
        go_wp2_with (go_at_call 37; refine (named_any cc.name HS1.out _).mono ?_; rw [HQ.out]; rintro e w' ⟨rfl, rfl⟩)
        go_roundw
        case rel => exact ⟨k + 1, by omega, by go_num, HN, hinv.out.alloc _⟩
        case measure => simp [intOf]; omega
    · obtain rfl : k = n := by omega
      have B0 : Hid (¬ BadName t) := by
        rintro (h | ⟨j, hj, h⟩)
        · rw [HU.out] at h; cases h
        · rw [hno.out j (by have := HLC.out; omega) hj] at h; cases h
      clear hno
      have a2 : wr.cell? ⟨w.heap.size, 2, none⟩ = some (.slice A k c) := hinv.out.arg.cell 2
      have a3 : wr.cell? ⟨w.heap.size, 3, none⟩ = some (.slice A2 n2 c2) := hinv.out.arg.cell 3
      by_cases hbc : k = 0 ∨ 8 < k ∨ 4 < n2
      · obtain rfl : R = 9 := HR.out.trans (valid_9 B0.out (by unfold BadCount; rw [HLC.out, HLX.out]; exact hbc))
        clear hlt hk
        go_wp2
        all_goals first | (exfalso; omega) | skip
        all_goals (go_ret; exact ⟨rfl, hinv.out.below⟩)
      · have B1 : Hid (¬ BadCount t) := by unfold BadCount; rw [HLC.out, HLX.out]; exact hbc
        have hk0 : 0 < k := by omega
        have hk8 : k ≤ 8 := by omega
        have hn4 : n2 ≤ 4 := by omega
        have e0 : ((k : Int) == 0) = false := by rw [beq_eq_false_iff_ne]; omega
        have e1 : decide ((8 : Int) < (k : Int)) = false := decide_eq_false (by omega)
        have e2 : decide (8 < k) = false := decide_eq_false (by omega)
        have e3 : decide ((4 : Int) < (n2 : Int)) = false := decide_eq_false (by omega)
        have e4 : decide (4 < n2) = false := decide_eq_false (by omega)
        clear hlt hk hbc hn hn2
        go_wp2
        clear e0 e1 e2 e3 e4 a2 a3
        go_loopw [51] (fun i wr => ∃ q : Nat, q ≤ k ∧ i = .int .i64 q ∧ Hid (∀ j (_ : j < q) (h : j < t.cols.length), findC t.cols t.cols[j].name = j) ∧ Hid (VInv 51 w wr #[.string t.name, .int .i64 t.ver, .slice A k c, .slice A2 n2 c2, .int .u64 (t.rows : Int), .int .u64 (t.ents : Int)])) (fun i _ => k - (intOf i).toNat)
        case atStart => exact ⟨0, Nat.zero_le _, rfl, fun j hj => absurd hj (by omega), hinv⟩
        case round =>
          clear hinv
          obtain ⟨q, hq, rfl, hno, hinv⟩ := hrel
          by_cases hlt : q < k
          · obtain ⟨hl, b1, off, hA, hbB, f0, f1, f2, f3, f4, f5, f6, f7, f8⟩ := col_facts (HC.out.below hinv.out.below) hlt
            subst hA
            have g0 : ∀ o, (wr.alloc o).cell? ⟨w.heap.size, 0, none⟩ = some (.string t.name) := fun o => (hinv.out.alloc o).arg.cell 0
            have g1 : ∀ o, (wr.alloc o).cell? ⟨w.heap.size, 1, none⟩ = some (.int .i64 t.ver) := fun o => (hinv.out.alloc o).arg.cell 1
            have g2 : ∀ o, (wr.alloc o).cell? ⟨w.heap.size, 2, none⟩ = some (.slice (some ⟨b1, off, none⟩) k c) := fun o => (hinv.out.alloc o).arg.cell 2
            have g3 : ∀ o, (wr.alloc o).cell? ⟨w.heap.size, 3, none⟩ = some (.slice A2 n2 c2) := fun o => (hinv.out.alloc o).arg.cell 3
            have g4 : ∀ o, (wr.alloc o).cell? ⟨w.heap.size, 4, none⟩ = some (.int .u64 (t.rows : Int)) := fun o => (hinv.out.alloc o).arg.cell 4
            have g5 : ∀ o, (wr.alloc o).cell? ⟨w.heap.size, 5, none⟩ = some (.int .u64 (t.ents : Int)) := fun o => (hinv.out.alloc o).arg.cell 5
            have HFK := fun o => Lib.hid (HF.out (wr.alloc o) t.cols[q].name (hinv.out.alloc o).below)
            have HN : Hid (findC t.cols t.cols[q].name = q → ∀ j (_ : j < q + 1) (h : j < t.cols.length), findC t.cols t.cols[j].name = j) := fun h0 j hj h => by
              by_cases e : j = q
              · subst e; exact h0
              · exact hno.out j (by omega) h
            have HX9 : Hid (findC t.cols t.cols[q].name ≠ q → R = 6) := fun h0 => HR.out.trans (valid_6 B0.out B1.out ⟨q, hl, h0⟩)
            generalize findC t.cols t.cols[q].name = fd at *
            generalize t.cols[q] = cc at *
            by_cases hfd : fd = q
            · have HN1 := Lib.hid (HN.out hfd)
              have e1 : (fd != (q : Int)) = false := by simp [hfd]
              clear hfd
              go_wp2_with (go_at_call 22; refine (HFK _).out.mono ?_; rintro e w' ⟨rfl, hb9⟩)
              go_roundw
              case rel => exact ⟨q + 1, by omega, by go_num, HN1, (hinv.out.alloc _).step hb9⟩
              case measure => simp [intOf]; omega
            · obtain rfl := HX9.out hfd
              have e1 : (fd != (q : Int)) = true := by rw [bne_iff_ne]; exact hfd
              clear hfd
              go_wp2_with (go_at_call 22; refine (HFK _).out.mono ?_; rintro e w' ⟨rfl, hb9⟩)
              go_ret
              exact ⟨rfl, ((hinv.out.alloc _).step hb9).below⟩
          · obtain rfl : k = q := by omega
            have B2 : Hid (¬ BadCol t) := by
              rintro ⟨j, hj, h⟩
              exact h (hno.out j (by have := HLC.out; omega) hj)
            clear hno hlt hq
            have a3 : wr.cell? ⟨w.heap.size, 3, none⟩ = some (.slice A2 n2 c2) := hinv.out.arg.cell 3
            go_wp2
            clear a3
            go_loopw [66] (fun i wr => ∃ q : Nat, q ≤ n2 ∧ i = .int .i64 q ∧ Hid (∀ j (_ : j < q) (h : j < t.idxs.length), findI t.idxs t.idxs[j].col = j) ∧ Hid (VInv 51 w wr #[.string t.name, .int .i64 t.ver, .slice A k c, .slice A2 n2 c2, .int .u64 (t.rows : Int), .int .u64 (t.ents : Int)])) (fun i _ => n2 - (intOf i).toNat)
            case atStart => exact ⟨0, Nat.zero_le _, rfl, fun j hj => absurd hj (by omega), hinv⟩
            case round =>
              clear hinv
              obtain ⟨q, hq, rfl, hno, hinv⟩ := hrel
              by_cases hlt : q < n2
              · obtain ⟨hl, b1, off, hA, hbB, f0, f1⟩ := idx_facts (HX.out.below hinv.out.below) hlt
                subst hA

                have g0 : ∀ o, (wr.alloc o).cell? ⟨w.heap.size, 0, none⟩ = some (.string t.name) := fun o => (hinv.out.alloc o).arg.cell 0
                have g1 : ∀ o, (wr.alloc o).cell? ⟨w.heap.size, 1, none⟩ = some (.int .i64 t.ver) := fun o => (hinv.out.alloc o).arg.cell 1
                have g2 : ∀ o, (wr.alloc o).cell? ⟨w.heap.size, 2, none⟩ = some (.slice A k c) := fun o => (hinv.out.alloc o).arg.cell 2
                have g3 : ∀ o, (wr.alloc o).cell? ⟨w.heap.size, 3, none⟩ = some (.slice (some ⟨b1, off, none⟩) n2 c2) := fun o => (hinv.out.alloc o).arg.cell 3
                have g4 : ∀ o, (wr.alloc o).cell? ⟨w.heap.size, 4, none⟩ = some (.int .u64 (t.rows : Int)) := fun o => (hinv.out.alloc o).arg.cell 4
                have g5 : ∀ o, (wr.alloc o).cell? ⟨w.heap.size, 5, none⟩ = some (.int .u64 (t.ents : Int)) := fun o => (hinv.out.alloc o).arg.cell 5
                have HFK := fun o => Lib.hid (HI.out (wr.alloc o) t.idxs[q].col (hinv.out.alloc o).below)
                have HN : Hid (findI t.idxs t.idxs[q].col = q → ∀ j (_ : j < q + 1) (h : j < t.idxs.length), findI t.idxs t.idxs[j].col = j) := fun h0 j hj h => by
                  by_cases e : j = q
                  · subst e; exact h0
                  · exact hno.out j (by omega) h
                have HX9 : Hid (findI t.idxs t.idxs[q].col ≠ q → R = 6) := fun h0 => HR.out.trans (valid_6i B0.out B1.out B2.out ⟨q, hl, h0⟩)
                generalize findI t.idxs t.idxs[q].col = fd at *
                generalize t.idxs[q] = cc at *
                by_cases hfd : fd = q
                · have HN1 := Lib.hid (HN.out hfd)
                  have e1 : (fd != (q : Int)) = false := by simp [hfd]
                  clear hfd
                  go_wp2_with (go_at_call 24; refine (HFK _).out.mono ?_; rintro e w' ⟨rfl, hb9⟩)
                  go_roundw
                  case rel => exact ⟨q + 1, by omega, by go_num, HN1, (hinv.out.alloc _).step hb9⟩
                  case measure => simp [intOf]; omega
                · obtain rfl := HX9.out hfd
                  have e1 : (fd != (q : Int)) = true := by rw [bne_iff_ne]; exact hfd
                  clear hfd
                  go_wp2_with (go_at_call 24; refine (HFK _).out.mono ?_; rintro e w' ⟨rfl, hb9⟩)
                  go_ret
                  exact ⟨rfl, ((hinv.out.alloc _).step hb9).below⟩
              · obtain rfl : n2 = q := by omega
                have B3 : Hid (¬ BadIdx t) := by
                  rintro ⟨j, hj, h⟩
                  exact h (hno.out j (by have := HLX.out; omega) hj)
                clear hno hlt hq
                have a3 : wr.cell? ⟨w.heap.size, 3, none⟩ = some (.slice A2 n2 c2) := hinv.out.arg.cell 3
                go_wp2
                clear a3
                go_loopw [81] (fun i wr => ∃ q : Nat, q ≤ n2 ∧ i = .int .i64 q ∧ Hid (∀ j (_ : j < q) (h : j < t.idxs.length), 0 ≤ findC t.cols t.idxs[j].col) ∧ Hid (VInv 51 w wr #[.string t.name, .int .i64 t.ver, .slice A k c, .slice A2 n2 c2, .int .u64 (t.rows : Int), .int .u64 (t.ents : Int)])) (fun i _ => n2 - (intOf i).toNat)
                case atStart => exact ⟨0, Nat.zero_le _, rfl, fun j hj => absurd hj (by omega), hinv⟩
                case round =>
                  clear hinv
                  obtain ⟨q, hq, rfl, hno, hinv⟩ := hrel
                  by_cases hlt : q < n2
                  · obtain ⟨hl, b1, off, hA, hbB, f0, f1⟩ := idx_facts (HX.out.below hinv.out.below) hlt
                    subst hA

                    have g0 : ∀ o, (wr.alloc o).cell? ⟨w.heap.size, 0, none⟩ = some (.string t.name) := fun o => (hinv.out.alloc o).arg.cell 0
                    have g1 : ∀ o, (wr.alloc o).cell? ⟨w.heap.size, 1, none⟩ = some (.int .i64 t.ver) := fun o => (hinv.out.alloc o).arg.cell 1
                    have g2 : ∀ o, (wr.alloc o).cell? ⟨w.heap.size, 2, none⟩ = some (.slice A k c) := fun o => (hinv.out.alloc o).arg.cell 2
                    have g3 : ∀ o, (wr.alloc o).cell? ⟨w.heap.size, 3, none⟩ = some (.slice (some ⟨b1, off, none⟩) n2 c2) := fun o => (hinv.out.alloc o).arg.cell 3
                    have g4 : ∀ o, (wr.alloc o).cell? ⟨w.heap.size, 4, none⟩ = some (.int .u64 (t.rows : Int)) := fun o => (hinv.out.alloc o).arg.cell 4
                    have g5 : ∀ o, (wr.alloc o).cell? ⟨w.heap.size, 5, none⟩ = some (.int .u64 (t.ents : Int)) := fun o => (hinv.out.alloc o).arg.cell 5
                    have HFK := fun o => Lib.hid (HF.out (wr.alloc o) t.idxs[q].col (hinv.out.alloc o).below)
                    have HN : Hid (0 ≤ findC t.cols t.idxs[q].col → ∀ j (_ : j < q + 1) (h : j < t.idxs.length), 0 ≤ findC t.cols t.idxs[j].col) := fun h0 j hj h => by
                      by_cases e : j = q
                      · subst e; exact h0
                      · exact hno.out j (by omega) h
                    have HX9 : Hid (findC t.cols t.idxs[q].col < 0 → R = 5) := fun h0 => HR.out.trans (valid_5 B0.out B1.out B2.out B3.out ⟨q, hl, h0⟩)
                    generalize findC t.cols t.idxs[q].col = fd at *
                    generalize t.idxs[q] = cc at *
                    by_cases hfd : fd < 0
                    · obtain rfl := HX9.out hfd
                      go_wp2_with (go_at_call 22; refine (HFK _).out.mono ?_; rintro e w' ⟨rfl, hb9⟩)
                      go_ret
                      exact ⟨rfl, ((hinv.out.alloc _).step hb9).below⟩
                    · have HN1 := Lib.hid (HN.out (by omega))
                      go_wp2_with (go_at_call 22; refine (HFK _).out.mono ?_; rintro e w' ⟨rfl, hb9⟩)
                      go_roundw
                      case rel => exact ⟨q + 1, by omega, by go_num, HN1, (hinv.out.alloc _).step hb9⟩
                      case measure => simp [intOf]; omega
                  · obtain rfl : n2 = q := by omega
                    have B4 : Hid (¬ BadRef t) := by
                      rintro ⟨j, hj, h⟩
                      have := hno.out j (by have := HLX.out; omega) hj
                      omega
                    clear hno hlt hq
                    have a2 : wr.cell? ⟨w.heap.size, 2, none⟩ = some (.slice A k c) := hinv.out.arg.cell 2
                    go_wp2
                    clear a2
                    go_loopw [94] (fun i wr => ∃ q : Nat, q ≤ k ∧ i = .int .i64 q ∧ Hid (∀ j (_ : j < q) (h : j < t.cols.length), fits t.cols[j] t.cols[j].d = 0) ∧ Hid (VInv 51 w wr #[.string t.name, .int .i64 t.ver, .slice A k c, .slice A2 n2 c2, .int .u64 (t.rows : Int), .int .u64 (t.ents : Int)])) (fun i _ => k - (intOf i).toNat)
                    case atStart => exact ⟨0, Nat.zero_le _, rfl, fun j hj => absurd hj (by omega), hinv⟩
                    case round =>
                      clear hinv
                      obtain ⟨q, hq, rfl, hno, hinv⟩ := hrel
                      by_cases hlt : q < k
                      · obtain ⟨hl, b1, off, hA, hbB, f0, f1, f2, f3, f4, f5, f6, f7, f8⟩ := col_facts (HC.out.below hinv.out.below) hlt
                        subst hA

                        have HFK := fun o => Lib.hid (fits_any t.cols[q] t.cols[q].d (wr.alloc o) (HSZ.out.cols q hl).2 (HT.out.below (hinv.out.alloc o).below))
                        have HN : Hid (fits t.cols[q] t.cols[q].d = 0 → ∀ j (_ : j < q + 1) (h : j < t.cols.length), fits t.cols[j] t.cols[j].d = 0) := fun h0 j hj h => by
                          by_cases e : j = q
                          · subst e; exact h0
                          · exact hno.out j (by omega) h
                        have HX9 : Hid (fits t.cols[q] t.cols[q].d ≠ 0 → R = 16) := fun h0 => HR.out.trans (valid_16 B0.out B1.out B2.out B3.out B4.out ⟨q, hl, h0⟩)
                        generalize fits t.cols[q] t.cols[q].d = fd at *
                        generalize t.cols[q] = cc at *
                        by_cases hfd : fd = 0
                        · have HN1 := Lib.hid (HN.out hfd)
                          have e1 : (fd != 0) = false := by simp [hfd]
                          clear hfd
                          go_wp2_with (go_at_call 11; refine (HFK _).out.mono ?_; rintro e w' ⟨rfl, hb9⟩)
                          go_roundw
                          case rel => exact ⟨q + 1, by omega, by go_num, HN1, (hinv.out.alloc _).step hb9⟩
                          case measure => simp [intOf]; omega
                        · obtain rfl := HX9.out hfd
                          have e1 : (fd != 0) = true := by rw [bne_iff_ne]; exact hfd
                          clear hfd
                          go_wp2_with (go_at_call 11; refine (HFK _).out.mono ?_; rintro e w' ⟨rfl, hb9⟩)
                          go_ret
                          exact ⟨rfl, ((hinv.out.alloc _).step hb9).below⟩
                      · obtain rfl : k = q := by omega
                        have B5 : Hid (¬ BadFit t) := by
                          rintro ⟨j, hj, h⟩
                          exact h (hno.out j (by have := HLC.out; omega) hj)
                        clear hno hlt hq
                        have a1 : wr.cell? ⟨w.heap.size, 1, none⟩ = some (.int .i64 t.ver) := hinv.out.arg.cell 1
                        obtain ⟨hl, b1, off, hA, hbB, f0, f1, f2, f3, f4, f5, f6, f7, f8⟩ := col_facts (HC.out.below hinv.out.below) hk0
                        subst hA
                        have a2 : wr.cell? ⟨w.heap.size, 2, none⟩ = some (.slice (some ⟨b1, off, none⟩) k c) := hinv.out.arg.cell 2
                        clear f0 f1 f2 f4 f5 f6 f7 f8
                        simp only [Nat.zero_mul, Nat.add_zero] at f3
                        have HX9 : Hid (BadVer t → R = 14) := fun h0 => HR.out.trans (valid_14 B0.out B1.out B2.out B3.out B4.out B5.out h0)
                        by_cases hv1 : t.ver < 1
                        · obtain rfl := HX9.out (.inl hv1)
                          go_wp2
                          go_ret
                          exact ⟨rfl, hinv.out.below⟩
                        by_cases hv2 : 65535 < t.ver
                        · obtain rfl := HX9.out (.inr (.inl hv2))
                          go_wp2
                          go_ret
                          exact ⟨rfl, hinv.out.below⟩
                        by_cases hv3 : t.cols[0].since = 1
                        case neg =>
                          obtain rfl := HX9.out (.inr (.inr ⟨0, hl, .inl ⟨rfl, hv3⟩⟩))
                          have e1 : (t.cols[0].since != 1) = true := by rw [bne_iff_ne]; exact hv3
                          clear hv3
                          go_wp2
                          go_ret
                          exact ⟨rfl, hinv.out.below⟩
                        have e1 : (t.cols[0].since != 1) = false := by simp [hv3]
                        have HV3 := Lib.hid hv3
                        clear hv3
                        go_wp2
                        clear e1 f3 a1 a2
                        go_loopw [13, 123] (fun s i wr => ∃ q : Nat, q ≤ k ∧ i = .int .i64 q ∧ s = .int .i64 (sinceAt t q) ∧ Hid (∀ j (_ : j < q) (h : j < t.cols.length), ¬ (t.cols[j].since < sinceAt t j ∨ t.ver < t.cols[j].since)) ∧ Hid (VInv 51 w wr #[.string t.name, .int .i64 t.ver, .slice (some ⟨b1, off, none⟩) k c, .slice A2 n2 c2, .int .u64 (t.rows : Int), .int .u64 (t.ents : Int)])) (fun _ i _ => k - (intOf i).toNat)
                        case atStart => exact ⟨0, Nat.zero_le _, rfl, rfl, fun j hj => absurd hj (by omega), hinv⟩
                        case round =>
                          clear hinv
                          obtain ⟨q, hq, rfl, rfl, hno, hinv⟩ := hrel
                          by_cases hlt : q < k
                          · obtain ⟨hlq, b2, off2, hA, hbB2, f0, f1, f2, f3, f4, f5, f6, f7, f8⟩ := col_facts (HC.out.below hinv.out.below) hlt
                            injection hA with hA
                            injection hA with hA1 hA2
                            subst hA1 hA2
                            have g1 : ∀ o, (wr.alloc o).cell? ⟨w.heap.size, 1, none⟩ = some (.int .i64 t.ver) := fun o => (hinv.out.alloc o).arg.cell 1
                            have HN : Hid (¬ (t.cols[q].since < sinceAt t q ∨ t.ver < t.cols[q].since) → ∀ j (_ : j < q + 1) (h : j < t.cols.length), ¬ (t.cols[j].since < sinceAt t j ∨ t.ver < t.cols[j].since)) := fun h0 j hj h => by
                              by_cases e : j = q
                              · subst e; exact h0
                              · exact hno.out j (by omega) h
                            have HX8 : Hid (t.cols[q].since < sinceAt t q ∨ t.ver < t.cols[q].since → R = 14) := fun h0 => HX9.out (.inr (.inr ⟨q, hlq, .inr h0⟩))
                            have HS9 : Hid (sinceAt t (q + 1) = t.cols[q].since) := show _ = _ by rw [sinceAt, dif_pos hlq]
                            generalize sinceAt t q = sq at *
                            generalize t.cols[q] = cc at *
                            by_cases h1 : cc.since < sq
                            · obtain rfl := HX8.out (.inl h1)
                              go_wp2
                              go_ret
                              exact ⟨rfl, (hinv.out.alloc _).below⟩
                            · by_cases h2 : t.ver < cc.since
                              · obtain rfl := HX8.out (.inr h2)
                                go_wp2
                                go_ret
                                exact ⟨rfl, (hinv.out.alloc _).below⟩
                              · have HN1 := Lib.hid (HN.out (by omega))
                                go_wp2
                                go_roundw
                                case rel => exact ⟨q + 1, by omega, by go_num, by rw [HS9.out], HN1, hinv.out.alloc _⟩
                                case measure => simp [intOf]; omega
                          · obtain rfl : k = q := by omega
                            have HE : Hid (R = 0) := by
                              refine HR.out.trans (valid_0 B0.out B1.out B2.out B3.out B4.out B5.out ?_)
                              rintro (h | h | ⟨j, hj, ⟨rfl, h⟩ | h⟩)
                              · omega
                              · omega
                              · exact h HV3.out
                              · exact hno.out j (by have := HLC.out; omega) hj h
                            obtain rfl := HE.out
                            go_wp2
                            go_ret
                            exact ⟨rfl, hinv.out.below⟩
end Go.Proofs.YtophcoaikelopaaDoor
