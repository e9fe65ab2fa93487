/- Walks: tables between the two packages. -/
import Derived.Test.YtophcoaikelopaaDoorWA
import Derived.Test.YtophcoaikelopaaDoorSData
import Derived.Test.YtophcoaikelopaaDoorApp
import Derived.Deep.RegionLaw
namespace Go.Proofs.YtophcoaikelopaaDoor
open Go.RowKit
theorem info32 : (Tryd.prog.info? 32).map (fun i => (i.zero, i.size, i.bytes)) = some (some (.agg #[.string ⟨#[]⟩, .int .u8 0, .bool false, .int .i64 0, .int .u8 0, .bool false, .int .i64 0, .string ⟨#[]⟩, .bool false]), 9, 72) := by kernel_rfl
theorem info79 : (Tryd.prog.info? 79).map (fun i => (i.zero, i.size, i.bytes)) = some (some (.agg #[.string ⟨#[]⟩, .bool false]), 2, 24) := by kernel_rfl
theorem cells_one (c : Col) : ∀ u ∈ c.cells, u.oneCell' = true := by intro u hu; simp only [Col.cells, List.mem_cons, List.not_mem_nil, or_false] at hu; rcases hu with rfl | rfl | rfl | rfl | rfl | rfl | rfl | rfl | rfl <;> rfl
theorem icells_one (c : Idx) : ∀ u ∈ c.cells, u.oneCell' = true := by intro u hu; simp only [Idx.cells, List.mem_cons, List.not_mem_nil, or_false] at hu; rcases hu with rfl | rfl <;> rfl
theorem after_col {wr w1 : World} {O : Obj} (hb : Below (wr.alloc O).drew.heap.size (wr.alloc O).drew w1) : Below (wr.alloc O).heap.size (wr.alloc O) w1 ∧ wr.heap.size + 1 ≤ w1.heap.size := by
  have h := below_drew_of hb
  have h2 := h.size
  rw [World.size_alloc] at h2
  exact ⟨h, h2⟩
theorem col_take (l : List Col) (k : Nat) (h : k < l.length) : colCells (l.take k) ++ (l[k]).cells = colCells (l.take (k + 1)) := by
  rw [List.take_succ_eq_append_getElem h, colCells_snoc]
theorem idx_take (l : List Idx) (k : Nat) (h : k < l.length) : idxCells (l.take k) ++ (l[k]).cells = idxCells (l.take (k + 1)) := by
  rw [List.take_succ_eq_append_getElem h, idxCells_snoc]

theorem Blk.new1 (w : World) (o : Obj) (t : TypeId) (cs : Array Value) : Blk ((w.alloc o).alloc (.cells cs t)) (w.heap.size + 1) t cs := by
  have h := Blk.new (w.alloc o) t cs
  rw [World.size_alloc] at h
  exact h
theorem Blk.new2 (w : World) (o o' : Obj) (t : TypeId) (cs : Array Value) : Blk (((w.alloc o).alloc o').alloc (.cells cs t)) (w.heap.size + 1 + 1) t cs := by
  have h := Blk.new ((w.alloc o).alloc o') t cs
  rw [World.size_alloc, World.size_alloc] at h
  exact h
/-- What stands in memory while 'table' runs: the argument's box, the result, the variable 'out'. -/
structure TInv (w wr : World) (arg out : Array Value) (v : Value) (k : Nat) (xs : List Value) : Prop where
  below : Below w.heap.size w wr
  arg : Blk wr w.heap.size 44 arg
  res : Blk wr (w.heap.size + 1) 51 #[.string ⟨#[]⟩, .int .i64 0, .slice none 0 0, .slice none 0 0, .int .u64 0, .int .u64 0]
  out : Blk wr (w.heap.size + 1 + 1) 51 out
  own : wr.ownsRow (w.heap.size + 3) 32 9 v k xs
theorem TInv.next {w wr w1 w3 : World} {arg out : Array Value} {v : Value} {k : Nat} {xs : List Value} (h : TInv w wr arg out v k xs) (hb : Below wr.heap.size wr w1) (hb3 : Below (w.heap.size + 3) w1 w3) {v' : Value} {n' : Nat} {xs' : List Value} (ho : w3.ownsRow (w.heap.size + 3) 32 9 v' n' xs') :
    TInv w (w3.setCell ⟨w.heap.size + 1 + 1, 2, none⟩ v') arg (out.setIfInBounds 2 v') v' n' xs' := by
  have hsz := h.below.size
  refine ⟨?_, ?_, ?_, ?_, own_far ho (by show w.heap.size + 1 + 1 < _; omega) _⟩
  · exact ((h.below.trans (hb.mono hsz)).trans (hb3.mono (by omega))).setCell (p := ⟨w.heap.size + 1 + 1, 2, none⟩) (by show w.heap.size ≤ w.heap.size + 1 + 1; omega) _
  · exact ((h.arg.below hb h.arg.lt).below hb3 (by omega)).far (p := ⟨w.heap.size + 1 + 1, 2, none⟩) (by show w.heap.size ≠ w.heap.size + 1 + 1; omega) _
  · exact ((h.res.below hb h.res.lt).below hb3 (by omega)).far (p := ⟨w.heap.size + 1 + 1, 2, none⟩) (by show w.heap.size + 1 ≠ w.heap.size + 1 + 1; omega) _
  · exact ((h.out.below hb h.out.lt).below hb3 (by omega)).set_ 2 _
theorem own_own_ne {w : World} {b1 b2 : Nat} {e1 e2 : TypeId} {s1 s2 : Nat} {v1 v2 : Value} {n1 n2 : Nat} {x1 x2 : List Value} (h1 : w.ownsRow b1 e1 s1 v1 n1 x1) (h2 : w.ownsRow b2 e2 s2 v2 n2 x2) (hne : e1 ≠ e2) : v1.ownBlock = none ∨ v1.ownBlock ≠ v2.ownBlock := by
  rcases h1.2 with ⟨rfl, _⟩ | ⟨g, cap, cur, rfl, _, hh, _⟩
  · exact .inl rfl
  · right
    have := own_blk_ne h2 (show Blk w g e1 cur from hh) (Ne.symm hne)
    intro he
    exact this (by rw [← he]; rfl)
structure TInv2 (w wr : World) (arg out : Array Value) (v : Value) (n : Nat) (xs : List Value) (u : Value) (k : Nat) (ys : List Value) : Prop where
  below : Below w.heap.size w wr
  arg : Blk wr w.heap.size 44 arg
  res : Blk wr (w.heap.size + 1) 51 #[.string ⟨#[]⟩, .int .i64 0, .slice none 0 0, .slice none 0 0, .int .u64 0, .int .u64 0]
  out : Blk wr (w.heap.size + 1 + 1) 51 out
  own : wr.ownsRow (w.heap.size + 3) 32 9 v n xs
  own2 : wr.ownsRow (w.heap.size + 3) 79 2 u k ys
theorem TInv2.next {w wr w1 w3 : World} {arg out : Array Value} {v u : Value} {n k : Nat} {xs ys : List Value} (h : TInv2 w wr arg out v n xs u k ys) (hb : Below wr.heap.size wr w1) (hg : w1.grownBy w3 u.ownBlock) (hb3 : Below (w.heap.size + 3) w1 w3) {v' : Value} {n' : Nat} {xs' : List Value} (ho : w3.ownsRow (w.heap.size + 3) 79 2 v' n' xs') :
    TInv2 w (w3.setCell ⟨w.heap.size + 1 + 1, 3, none⟩ v') arg (out.setIfInBounds 3 v') v n xs v' n' xs' := by
  have hsz := h.below.size
  have hne := own_own_ne h.own h.own2 (by decide)
  refine ⟨?_, ?_, ?_, ?_, own_far ((own_below h.own hb).kept hg hne) (by show w.heap.size + 1 + 1 < _; omega) _, own_far ho (by show w.heap.size + 1 + 1 < _; omega) _⟩
  · exact ((h.below.trans (hb.mono hsz)).trans (hb3.mono (by omega))).setCell (p := ⟨w.heap.size + 1 + 1, 3, none⟩) (by show w.heap.size ≤ w.heap.size + 1 + 1; omega) _
  · exact ((h.arg.below hb h.arg.lt).below hb3 (by omega)).far (p := ⟨w.heap.size + 1 + 1, 3, none⟩) (by show w.heap.size ≠ w.heap.size + 1 + 1; omega) _
  · exact ((h.res.below hb h.res.lt).below hb3 (by omega)).far (p := ⟨w.heap.size + 1 + 1, 3, none⟩) (by show w.heap.size + 1 ≠ w.heap.size + 1 + 1; omega) _
  · exact ((h.out.below hb h.out.lt).below hb3 (by omega)).set_ 3 _
/-- A table in memory, as a value. -/
def TblIs (w : World) (v : Value) (t : Tbl) : Prop :=
  ∃ (A : Option Addr) (n c : Nat) (A2 : Option Addr) (n2 c2 : Nat), v = .agg #[.string t.name, .int .i64 t.ver, .slice A n c, .slice A2 n2 c2, .int .u64 (t.rows : Int), .int .u64 (t.ents : Int)] ∧
    Reads w w.heap.size 9 A n (colCells t.cols) ∧ Reads w w.heap.size 2 A2 n2 (idxCells t.idxs) ∧ n ≤ c ∧ n2 ≤ c2
def RetTbl (w : World) (t : Tbl) (e : Ending) (w' : World) : Prop := ∃ v, e = .returned v ∧ TblIs w' v t ∧ Below w.heap.size w w'
set_option maxRecDepth 100000 in
set_option maxHeartbeats 2000000 in
theorem table_any (t : Tbl) (A A2 : Option Addr) (n c n2 c2 : Nat) (w : World) (hc : Reads w w.heap.size 9 A n (colCells t.cols)) (hx : Reads w w.heap.size 2 A2 n2 (idxCells t.idxs)) (hn : n ≤ 1000) (hn2 : n2 ≤ 1000) :
    Calls Tryd.prog 18 #[.agg #[.string t.name, .int .i64 t.ver, .slice A n c, .slice A2 n2 c2, .int .u64 (t.rows : Int), .int .u64 (t.ents : Int)]] w (RetTbl w t) := by
  have HC := Lib.hid hc
  have HX := Lib.hid hx
  have HLC := Lib.hid (show t.cols.length = n by have := hc.1; rw [colCells_len] at this; omega)
  have HLX := Lib.hid (show t.idxs.length = n2 by have := hx.1; rw [idxCells_len] at this; omega)
  clear hc hx
  go_enter Tryd.func18, Tryd.ntmps18
  go_wp2
  go_loopw [20] (fun i wr => ∃ (k : Nat) (v : Value), k ≤ n ∧ i = .int .i64 k ∧ Hid (TInv w wr #[.string t.name, .int .i64 t.ver, .slice A n c, .slice A2 n2 c2, .int .u64 (t.rows : Int), .int .u64 (t.ents : Int)] #[.string t.name, .int .i64 t.ver, v, .slice none 0 0, .int .u64 (t.rows : Int), .int .u64 (t.ents : Int)] v k (colCells (t.cols.take k)))) (fun i _ => n - (intOf i).toNat)
  case atStart =>
    refine ⟨0, .slice none 0 0, Nat.zero_le _, rfl, ⟨?_, ?_, ?_, ?_, ?_⟩⟩
    · exact (((Below.refl _ _).alloc (Nat.le_refl _) _).alloc (by simp) _).alloc (by simp; omega) _
    · exact ((Blk.new w 44 _).alloc _).alloc _
    · exact (Blk.new1 w _ 51 _).alloc _
    · exact Blk.new2 w _ _ 51 _
    · exact World.ownsRow_nil _ _ _ _
  case round =>
    obtain ⟨k, v, hk, rfl, hinv⟩ := hrel
    by_cases hlt : k < n
    · obtain ⟨hl, b, off, hA, hbB, f0, f1, f2, f3, f4, f5, f6, f7, f8⟩ := col_facts (HC.out.below hinv.out.below) hlt
      subst hA
      have HTK := Lib.hid (col_take t.cols k hl)
      generalize t.cols[k] = cc at *
      have g2 : wr.cell? ⟨w.heap.size + 1 + 1, 2, none⟩ = some v := hinv.out.out.cell 2
      obtain ⟨i0, hi0, hz0, hz1, hz2⟩ := info_parts info32
      have hsz : w.heap.size + 1 + 1 < wr.heap.size := hinv.out.out.lt
      have hcol := fun W => column_any cc.name cc.ty cc.null cc.since cc.d.ty cc.d.int cc.d.null cc.d.bool cc.d.text W
      have HCOL := Lib.hid hcol
      clear hcol
      have HK := Lib.hid (Blk.new wr 25 #[.string cc.name, .int .u8 (cc.ty : Int), .bool cc.null, .int .i64 cc.since, .int .u8 (cc.d.ty : Int), .bool cc.d.null, .int .i64 cc.d.int, .string cc.d.text, .bool cc.d.bool])
      go_wp2
      clear f0 f1 f2 f3 f4 f5 f6 f7 f8
      go_region_law
        (first
          | (refine step_app _ (by rfl) _ _ _ (by rfl) (w.heap.size + 3) 32 i0 _ 9 72 Tryd.underlying47 hi0 hz0 hz1 hz2 rfl ?q1 v k _ (by rfl) (ho1.alloc _) _ (some ⟨w1.heap.size, 0, none⟩) 1 1 cc.cells (by rfl) (rowN_reads w1 cc.cells 1 9 32 _ rfl rfl) (cells_one cc) ?q2 ?q3 ?q4 ?_; (case q1 => omega); (case q2 => (unfold maxLen; omega)); (case q3 => omega); (case q4 => (simp; omega)); intro A3 n3 c3 w3 hn3 ho3 hg3 hb3; have hG4 := (hG3.alloc _).below hb3 (Nat.lt_succ_self _); have g4 := hG4.cell 2; have hf4 := hG4.frozen 2; have HN := Lib.hid (hinv.out.next (hb1a.alloc hb1a.size _) hb3 ho3); have HN3 := Lib.hid hn3; clear hG4 hn3 ho3 hg3 hb3)
          | (go_simp; go_at_call 10; refine (HCOL.out _).mono ?_; rintro e w1 ⟨rfl, hb1'⟩; obtain ⟨hb1, hs1⟩ := after_col hb1'; clear hb1'; have hG3 := (hinv.out.out.alloc _).below hb1 (hinv.out.out.alloc _).lt; have g3 := hG3.cell 2; have g3a := fun o => (hG3.alloc o).cell 2; have ho1 := own_below (hinv.out.own.alloc _) hb1; have hb1a := ((Below.refl _ _).alloc (Nat.le_refl _) _).trans (hb1.mono (by simp))))
      all_goals
        rw [HTK.out] at HN
        go_wp2
        obtain rfl := HN3.out
        go_roundw
        case rel => exact ⟨k + 1, _, by omega, by go_num, HN⟩
        case measure => simp [intOf]; omega
    · obtain rfl : k = n := by omega
      have HTA : Hid (colCells (t.cols.take k) = colCells t.cols) := show _ = _ by rw [List.take_of_length_le (by have := HLC.out; omega)]
      rw [HTA.out] at hinv
      have g3 : wr.cell? ⟨w.heap.size, 3, none⟩ = some (.slice A2 n2 c2) := hinv.out.arg.cell 3
      clear hlt hk
      have HI2 : Hid (TInv2 w wr #[.string t.name, .int .i64 t.ver, .slice A k c, .slice A2 n2 c2, .int .u64 (t.rows : Int), .int .u64 (t.ents : Int)] #[.string t.name, .int .i64 t.ver, v, .slice none 0 0, .int .u64 (t.rows : Int), .int .u64 (t.ents : Int)] v k (colCells t.cols) (.slice none 0 0) 0 (idxCells (t.idxs.take 0))) :=
        ⟨hinv.out.below, hinv.out.arg, hinv.out.res, hinv.out.out, hinv.out.own, World.ownsRow_nil _ _ _ _⟩
      clear hinv
      go_wp2
      go_loopw [35] (fun i wr => ∃ (q : Nat) (u : Value), q ≤ n2 ∧ i = .int .i64 q ∧ Hid (TInv2 w wr #[.string t.name, .int .i64 t.ver, .slice A k c, .slice A2 n2 c2, .int .u64 (t.rows : Int), .int .u64 (t.ents : Int)] #[.string t.name, .int .i64 t.ver, v, u, .int .u64 (t.rows : Int), .int .u64 (t.ents : Int)] v k (colCells t.cols) u q (idxCells (t.idxs.take q)))) (fun i _ => n2 - (intOf i).toNat)
      case atStart => exact ⟨0, _, Nat.zero_le _, rfl, HI2⟩
      case round =>
        clear HI2 g3
        obtain ⟨q, u, hq, rfl, hinv⟩ := hrel
        by_cases hlt : q < n2
        · obtain ⟨hl, b, off, hA, hbB, f0, f1⟩ := idx_facts (HX.out.below hinv.out.below) hlt
          subst hA
          have HTK := Lib.hid (idx_take t.idxs q hl)
          generalize t.idxs[q] = cc at *
          have g2 : wr.cell? ⟨w.heap.size + 1 + 1, 3, none⟩ = some u := hinv.out.out.cell 3
          obtain ⟨i0, hi0, hz0, hz1, hz2⟩ := info_parts info79
          have hsz : w.heap.size + 1 + 1 < wr.heap.size := hinv.out.out.lt
          go_wp2_with (at_builtin; refine wpList_app _ (.tmp 40) (.tmp 46) 48 rfl rfl (w.heap.size + 3) 79 i0 _ 2 24 Tryd.underlying48 hi0 hz0 hz1 hz2 rfl ?q1 u q _ rfl ((hinv.out.own2.alloc _).alloc _) (wr.heap.size + 1 + 1) (some ⟨wr.heap.size + 1, 0, none⟩) 1 1 cc.cells rfl ?q5 (icells_one cc) ?q2 ?q3 ?q4 ?_; (case q1 => omega); (case q5 => exact rowN_reads1 wr _ cc.cells 1 2 79 _ rfl rfl); (case q2 => (unfold maxLen; omega)); (case q3 => omega); (case q4 => (simp; omega)); intro A3 n3 c3 w3 hn3 ho3 hg3 hb3; have hG4 := ((hinv.out.out.alloc _).alloc _).below hb3 (Nat.lt_succ_self _); have g4 := hG4.cell 3; have hf4 := hG4.frozen 3; have HN := Lib.hid (hinv.out.next (((Below.refl _ _).alloc (Nat.le_refl _) _).alloc (by simp) _) hg3 hb3 ho3); have HN3 := Lib.hid hn3; clear hG4 hn3 ho3 hg3 hb3)
          rw [HTK.out] at HN
          obtain rfl := HN3.out
          go_roundw
          case rel => exact ⟨q + 1, _, by omega, by go_num, HN⟩
          case measure => simp [intOf]; omega
        · obtain rfl : q = n2 := by omega
          have HTB : Hid (idxCells (t.idxs.take q) = idxCells t.idxs) := show _ = _ by rw [List.take_of_length_le (by have := HLX.out; omega)]
          rw [HTB.out] at hinv
          obtain ⟨Av, cv, rfl⟩ := own_slice hinv.out.own
          obtain ⟨Au, cu, rfl⟩ := own_slice hinv.out.own2
          have hcv := own_cap hinv.out.own
          have hcu := own_cap hinv.out.own2
          have o0 := hinv.out.out.cell 0
          have o1 := hinv.out.out.cell 1
          have o2 := hinv.out.out.cell 2
          have o3 := hinv.out.out.cell 3
          have o4 := hinv.out.out.cell 4
          have o5 := hinv.out.out.cell 5
          have r0 := hinv.out.res.cell 0
          have r1 := hinv.out.res.cell 1
          have r2 := hinv.out.res.cell 2
          have r3 := hinv.out.res.cell 3
          have r4 := hinv.out.res.cell 4
          have r5 := hinv.out.res.cell 5
          have z0 := hinv.out.res.frozen 0
          have z1 := hinv.out.res.frozen 1
          have z2 := hinv.out.res.frozen 2
          have z3 := hinv.out.res.frozen 3
          have z4 := hinv.out.res.frozen 4
          have z5 := hinv.out.res.frozen 5
          simp at o0 o1 o2 o3 o4 o5 r0 r1 r2 r3 r4 r5
          clear hlt hq HTB HTA
          go_wp2
          refine bodyPost_ret (v := .agg #[.string t.name, .int .i64 t.ver, .slice Av k cv, .slice Au q cu, .int .u64 (t.rows : Int), .int .u64 (t.ents : Int)]) (by simp [results, Tryd.results18, go_sem, r0, r1, r2, r3, r4, r5]) rfl ⟨_, rfl, ⟨Av, k, cv, Au, q, cu, rfl, Reads.of_own (base := w.heap.size + 3) (e := 32) (c := cv) ?_, Reads.of_own (base := w.heap.size + 3) (e := 79) (c := cu) ?_, hcv.1, hcu.1⟩, ?_⟩
          · iterate 6 (refine own_far ?_ (by show w.heap.size + 1 < w.heap.size + 3; omega) _)
            exact hinv.out.own
          · iterate 6 (refine own_far ?_ (by show w.heap.size + 1 < w.heap.size + 3; omega) _)
            exact hinv.out.own2
          · iterate 6 (refine Below.setCell ?_ (by show w.heap.size ≤ w.heap.size + 1; omega) _)
            exact hinv.out.below
end Go.Proofs.YtophcoaikelopaaDoor
