/- Walks: two equal tables are the same; a table cut short; the table of the first example. -/
import Derived.Test.YtophcoaikelopaaDoorWC
namespace Go.Proofs.YtophcoaikelopaaDoor
open Go.RowKit

/-- What stands in memory while 'Same' runs. -/
structure SInv (w wr : World) (a b : Array Value) : Prop where
  below : Below w.heap.size w wr
  a : Blk wr w.heap.size 44 a
  b : Blk wr (w.heap.size + 1) 44 b
theorem SInv.drewN {w wr : World} {a b : Array Value} (h : SInv w wr a b) (k : Nat) : SInv w (wr.drewN k) a b := ⟨below_drewN h.below k, h.a, h.b⟩
set_option maxRecDepth 100000 in
set_option maxHeartbeats 2000000 in
theorem same_core (t : Tbl) (A A2 B B2 : Option Addr) (n n2 c c2 d d2 : Nat) (w : World) (ha : Reads w w.heap.size 9 A n (colCells t.cols)) (ha2 : Reads w w.heap.size 2 A2 n2 (idxCells t.idxs)) (hb : Reads w w.heap.size 9 B n (colCells t.cols)) (hb2 : Reads w w.heap.size 2 B2 n2 (idxCells t.idxs)) (hn : n ≤ 1000) (hn2 : n2 ≤ 1000) :
    Calls Tryd.prog 29 #[.agg #[.string t.name, .int .i64 t.ver, .slice A n c, .slice A2 n2 c2, .int .u64 (t.rows : Int), .int .u64 (t.ents : Int)], .agg #[.string t.name, .int .i64 t.ver, .slice B n d, .slice B2 n2 d2, .int .u64 (t.rows : Int), .int .u64 (t.ents : Int)]] w
      fun e w' => e = .returned (.bool true) ∧ Below w.heap.size w w' := by
  have HA := Lib.hid ha
  have HA2 := Lib.hid ha2
  have HB := Lib.hid hb
  have HB2 := Lib.hid hb2
  clear ha ha2 hb hb2
  go_enter Tryd.func29, Tryd.ntmps29
  go_wp2
  go_loopw [54] (fun i wr => ∃ k : Nat, k ≤ n ∧ i = .int .i64 k ∧ Hid (SInv w wr #[.string t.name, .int .i64 t.ver, .slice A n c, .slice A2 n2 c2, .int .u64 (t.rows : Int), .int .u64 (t.ents : Int)] #[.string t.name, .int .i64 t.ver, .slice B n d, .slice B2 n2 d2, .int .u64 (t.rows : Int), .int .u64 (t.ents : Int)])) (fun i _ => n - (intOf i).toNat)
  case atStart => exact ⟨0, Nat.zero_le _, rfl, ⟨((Below.refl _ _).alloc (Nat.le_refl _) _).alloc (by simp) _, (Blk.new w 44 _).alloc _, Blk.new1 w _ 44 _⟩⟩
  case round =>
    obtain ⟨k, hk, rfl, hinv⟩ := hrel
    have a2 : wr.cell? ⟨w.heap.size, 2, none⟩ = some (.slice A n c) := hinv.out.a.cell 2
    have b2 : wr.cell? ⟨w.heap.size + 1, 2, none⟩ = some (.slice B n d) := hinv.out.b.cell 2
    by_cases hlt : k < n
    · obtain ⟨hl, b, off, hA, hbB, f0, f1, f2, f3, f4, f5, f6, f7, f8⟩ := col_facts (HA.out.below hinv.out.below) hlt
      obtain ⟨_, b', off', hA', _, g0, g1, g2, g3, g4, g5, g6, g7, g8⟩ := col_facts (HB.out.below hinv.out.below) hlt
      subst hA hA'
      generalize t.cols[k] = cc at *
      have hz0 : (0 : Int) ≤ (k : Int) := by omega
      have hz1 : (k : Int) < (n : Int) := by omega
      go_wp2
      go_quiet (fail)
      go_wp2
      go_roundw
      case rel => exact ⟨k + 1, by omega, by go_num, hinv.out.drewN _⟩
      case measure => simp [intOf]; omega
    · have a3 : wr.cell? ⟨w.heap.size, 3, none⟩ = some (.slice A2 n2 c2) := hinv.out.a.cell 3
      clear a2 b2
      go_wp2
      clear a3
      go_loopw [72] (fun i wr => ∃ k : Nat, k ≤ n2 ∧ i = .int .i64 k ∧ Hid (SInv w wr #[.string t.name, .int .i64 t.ver, .slice A n c, .slice A2 n2 c2, .int .u64 (t.rows : Int), .int .u64 (t.ents : Int)] #[.string t.name, .int .i64 t.ver, .slice B n d, .slice B2 n2 d2, .int .u64 (t.rows : Int), .int .u64 (t.ents : Int)])) (fun i _ => n2 - (intOf i).toNat)
      case atStart => exact ⟨0, Nat.zero_le _, rfl, hinv⟩
      case round =>
        clear hinv
        obtain ⟨q, hq, rfl, hinv⟩ := hrel
        have a3 : wr.cell? ⟨w.heap.size, 3, none⟩ = some (.slice A2 n2 c2) := hinv.out.a.cell 3
        have b3 : wr.cell? ⟨w.heap.size + 1, 3, none⟩ = some (.slice B2 n2 d2) := hinv.out.b.cell 3
        by_cases hlt2 : q < n2
        · obtain ⟨hl, b, off, hA, hbB, f0, f1⟩ := idx_facts (HA2.out.below hinv.out.below) hlt2
          obtain ⟨_, b', off', hA', _, g0, g1⟩ := idx_facts (HB2.out.below hinv.out.below) hlt2
          subst hA hA'
          generalize t.idxs[q] = cc at *
          have hz0 : (0 : Int) ≤ (q : Int) := by omega
          have hz1 : (q : Int) < (n2 : Int) := by omega
          go_wp2
          go_quiet (fail)
          go_wp2
          go_roundw
          case rel => exact ⟨q + 1, by omega, by go_num, hinv.out.drewN _⟩
          case measure => simp [intOf]; omega
        · go_wp2
          go_ret
          exact ⟨rfl, hinv.out.below⟩

theorem Reads.take_ {w : World} {B size n : Nat} {A : Option Addr} {xs : List Value} (h : Reads w B size A n xs) (k : Nat) (hk : k ≤ n) : Reads w B size A k (xs.take (k * size)) := by
  refine ⟨by rw [List.length_take, h.1]; exact Nat.min_eq_left (Nat.mul_le_mul_right _ hk), fun hn => ?_⟩
  obtain ⟨ad, hA, hb, hc⟩ := h.2 (by omega)
  refine ⟨ad, hA, hb, fun j u hu => hc j u ?_⟩
  rw [List.getElem?_take] at hu
  split at hu
  · exact hu
  · cases hu
theorem colCells_take : ∀ (l : List Col) (k : Nat), (colCells l).take (k * 9) = colCells (l.take k)
  | [], k => by simp [colCells]
  | c :: l, 0 => by simp [colCells]
  | c :: l, k + 1 => by
    have ih := colCells_take l k
    simp only [colCells, List.flatMap_cons, List.take_succ_cons] at ih ⊢
    rw [List.take_append, List.take_of_length_le (by rw [Col.cells_len]; omega), Col.cells_len, show (k + 1) * 9 - 9 = k * 9 by omega, ih]
theorem idxCells_take : ∀ (l : List Idx) (k : Nat), (idxCells l).take (k * 2) = idxCells (l.take k)
  | [], k => by simp [idxCells]
  | c :: l, 0 => by simp [idxCells]
  | c :: l, k + 1 => by
    have ih := idxCells_take l k
    simp only [idxCells, List.flatMap_cons, List.take_succ_cons] at ih ⊢
    rw [List.take_append, List.take_of_length_le (by rw [Idx.cells_len]; omega), Idx.cells_len, show (k + 1) * 2 - 2 = k * 2 by omega, ih]
/-- A table with at most 10 columns and 6 indexes. -/
def few (t : Tbl) : Tbl := { t with cols := t.cols.take 10, idxs := t.idxs.take 6 }
set_option maxRecDepth 100000 in
set_option maxHeartbeats 2000000 in
theorem few_core (name : ByteArray) (ver rows ents : Int) (A A2 : Option Addr) (n n2 c c2 m m2 : Nat) (w : World) (hc : n ≤ c) (hc2 : n2 ≤ c2) (hm : (n ≤ 10 ∧ m = n) ∨ (10 < n ∧ m = 10)) (hm2 : (n2 ≤ 6 ∧ m2 = n2) ∨ (6 < n2 ∧ m2 = 6)) :
    Calls Tryd.prog 20 #[.agg #[.string name, .int .i64 ver, .slice A n c, .slice A2 n2 c2, .int .u64 rows, .int .u64 ents]] w
      fun e w' => e = .returned (.agg #[.string name, .int .i64 ver, .slice A m c, .slice A2 m2 c2, .int .u64 rows, .int .u64 ents]) ∧ Below w.heap.size w w' := by
  rcases hm with ⟨h1, rfl⟩ | ⟨h1, rfl⟩ <;> rcases hm2 with ⟨h2, rfl⟩ | ⟨h2, rfl⟩
  all_goals
    go_enter Tryd.func20, Tryd.ntmps20
    go_wp2
    refine bodyPost_ret (by simp [results, Tryd.results20, go_sem]) rfl ⟨rfl, ?_⟩
    exact ((Below.refl _ _).alloc (Nat.le_refl _) _).alloc (by simp) _
end Go.Proofs.YtophcoaikelopaaDoor
