/- Walks: tables back from the program's form to the reference's. -/
import Derived.Test.YtophcoaikelopaaDoorWB
namespace Go.Proofs.YtophcoaikelopaaDoor
open Go.RowKit
theorem info25 : (Tryd.prog.info? 25).map (fun i => (i.zero, i.size, i.bytes)) = some (some (.agg #[.string ⟨#[]⟩, .int .u8 0, .bool false, .int .i64 0, .int .u8 0, .bool false, .int .i64 0, .string ⟨#[]⟩, .bool false]), 9, 72) := by kernel_rfl
theorem info78 : (Tryd.prog.info? 78).map (fun i => (i.zero, i.size, i.bytes)) = some (some (.agg #[.string ⟨#[]⟩, .bool false]), 2, 24) := by kernel_rfl
theorem rowN_reads2 (w : World) (o' o'' : Obj) (l : List Value) (k size : Nat) (e : TypeId) (o : Obj) (ho : o = .cells l.toArray e) (hl : l.length = k * size) : Reads (((w.alloc o').alloc o'').alloc o) (w.heap.size + 1 + 1 + 1) size (some ⟨w.heap.size + 1 + 1, 0, none⟩) k l := by
  have h := rowN_reads ((w.alloc o').alloc o'') l k size e o ho hl
  rw [World.size_alloc, World.size_alloc] at h
  exact h
/-- What stands in memory while 'back' runs: the argument's box, the result, the variable 'out'. -/
structure BInv (w wr : World) (arg out : Array Value) (v : Value) (k : Nat) (xs : List Value) : Prop where
  below : Below w.heap.size w wr
  arg : Blk wr w.heap.size 51 arg
  res : Blk wr (w.heap.size + 1) 44 #[.string ⟨#[]⟩, .int .i64 0, .slice none 0 0, .slice none 0 0, .int .u64 0, .int .u64 0]
  out : Blk wr (w.heap.size + 1 + 1) 44 out
  own : wr.ownsRow (w.heap.size + 3) 25 9 v k xs
theorem BInv.next {w wr w1 w3 : World} {arg out : Array Value} {v : Value} {k : Nat} {xs : List Value} (h : BInv w wr arg out v k xs) (hb : Below wr.heap.size wr w1) (hb3 : Below (w.heap.size + 3) w1 w3) {v' : Value} {n' : Nat} {xs' : List Value} (ho : w3.ownsRow (w.heap.size + 3) 25 9 v' n' xs') :
    BInv w (w3.setCell ⟨w.heap.size + 1 + 1, 2, none⟩ v') arg (out.setIfInBounds 2 v') v' n' xs' := by
  have hsz := h.below.size
  refine ⟨?_, ?_, ?_, ?_, own_far ho (by show w.heap.size + 1 + 1 < _; omega) _⟩
  · exact ((h.below.trans (hb.mono hsz)).trans (hb3.mono (by omega))).setCell (p := ⟨w.heap.size + 1 + 1, 2, none⟩) (by show w.heap.size ≤ w.heap.size + 1 + 1; omega) _
  · exact ((h.arg.below hb h.arg.lt).below hb3 (by omega)).far (p := ⟨w.heap.size + 1 + 1, 2, none⟩) (by show w.heap.size ≠ w.heap.size + 1 + 1; omega) _
  · exact ((h.res.below hb h.res.lt).below hb3 (by omega)).far (p := ⟨w.heap.size + 1 + 1, 2, none⟩) (by show w.heap.size + 1 ≠ w.heap.size + 1 + 1; omega) _
  · exact ((h.out.below hb h.out.lt).below hb3 (by omega)).set_ 2 _
structure BInv2 (w wr : World) (arg out : Array Value) (v : Value) (n : Nat) (xs : List Value) (u : Value) (k : Nat) (ys : List Value) : Prop where
  below : Below w.heap.size w wr
  arg : Blk wr w.heap.size 51 arg
  res : Blk wr (w.heap.size + 1) 44 #[.string ⟨#[]⟩, .int .i64 0, .slice none 0 0, .slice none 0 0, .int .u64 0, .int .u64 0]
  out : Blk wr (w.heap.size + 1 + 1) 44 out
  own : wr.ownsRow (w.heap.size + 3) 25 9 v n xs
  own2 : wr.ownsRow (w.heap.size + 3) 78 2 u k ys
theorem BInv2.next {w wr w1 w3 : World} {arg out : Array Value} {v u : Value} {n k : Nat} {xs ys : List Value} (h : BInv2 w wr arg out v n xs u k ys) (hb : Below wr.heap.size wr w1) (hg : w1.grownBy w3 u.ownBlock) (hb3 : Below (w.heap.size + 3) w1 w3) {v' : Value} {n' : Nat} {xs' : List Value} (ho : w3.ownsRow (w.heap.size + 3) 78 2 v' n' xs') :
    BInv2 w (w3.setCell ⟨w.heap.size + 1 + 1, 3, none⟩ v') arg (out.setIfInBounds 3 v') v n xs v' n' xs' := by
  have hsz := h.below.size
  have hne := own_own_ne h.own h.own2 (by decide)
  refine ⟨?_, ?_, ?_, ?_, own_far ((own_below h.own hb).kept hg hne) (by show w.heap.size + 1 + 1 < _; omega) _, own_far ho (by show w.heap.size + 1 + 1 < _; omega) _⟩
  · exact ((h.below.trans (hb.mono hsz)).trans (hb3.mono (by omega))).setCell (p := ⟨w.heap.size + 1 + 1, 3, none⟩) (by show w.heap.size ≤ w.heap.size + 1 + 1; omega) _
  · exact ((h.arg.below hb h.arg.lt).below hb3 (by omega)).far (p := ⟨w.heap.size + 1 + 1, 3, none⟩) (by show w.heap.size ≠ w.heap.size + 1 + 1; omega) _
  · exact ((h.res.below hb h.res.lt).below hb3 (by omega)).far (p := ⟨w.heap.size + 1 + 1, 3, none⟩) (by show w.heap.size + 1 ≠ w.heap.size + 1 + 1; omega) _
  · exact ((h.out.below hb h.out.lt).below hb3 (by omega)).set_ 3 _
set_option maxRecDepth 100000 in
set_option maxHeartbeats 2000000 in
theorem back_any (t : Tbl) (A A2 : Option Addr) (n c n2 c2 : Nat) (w : World) (hc : Reads w w.heap.size 9 A n (colCells t.cols)) (hx : Reads w w.heap.size 2 A2 n2 (idxCells t.idxs)) (hn : n ≤ 1000) (hn2 : n2 ≤ 1000) :
    Calls Tryd.prog 30 #[.agg #[.string t.name, .int .i64 t.ver, .slice A n c, .slice A2 n2 c2, .int .u64 (t.rows : Int), .int .u64 (t.ents : Int)]] w (RetTbl w t) := by
  have HC := Lib.hid hc
  have HX := Lib.hid hx
  have HLC := Lib.hid (show t.cols.length = n by have := hc.1; rw [colCells_len] at this; omega)
  have HLX := Lib.hid (show t.idxs.length = n2 by have := hx.1; rw [idxCells_len] at this; omega)
  clear hc hx
  go_enter Tryd.func30, Tryd.ntmps30
  go_wp2
  go_loopw [21] (fun i wr => ∃ (k : Nat) (v : Value), k ≤ n ∧ i = .int .i64 k ∧ Hid (BInv w wr #[.string t.name, .int .i64 t.ver, .slice A n c, .slice A2 n2 c2, .int .u64 (t.rows : Int), .int .u64 (t.ents : Int)] #[.string t.name, .int .i64 t.ver, v, .slice none 0 0, .int .u64 (t.rows : Int), .int .u64 (t.ents : Int)] v k (colCells (t.cols.take k)))) (fun i _ => n - (intOf i).toNat)
  case atStart =>
    refine ⟨0, .slice none 0 0, Nat.zero_le _, rfl, ⟨?_, ?_, ?_, ?_, ?_⟩⟩
    · exact (((Below.refl _ _).alloc (Nat.le_refl _) _).alloc (by simp) _).alloc (by simp; omega) _
    · exact ((Blk.new w 51 _).alloc _).alloc _
    · exact (Blk.new1 w _ 44 _).alloc _
    · exact Blk.new2 w _ _ 44 _
    · exact World.ownsRow_nil _ _ _ _
  case round =>
    obtain ⟨k, v, hk, rfl, hinv⟩ := hrel
    by_cases hlt : k < n
    · obtain ⟨hl, b, off, hA, hbB, f0, f1, f2, f3, f4, f5, f6, f7, f8⟩ := col_facts (HC.out.below hinv.out.below) hlt
      subst hA
      have HTK := Lib.hid (col_take t.cols k hl)
      generalize t.cols[k] = cc at *
      have g2 : ∀ o o', ((wr.alloc o).alloc o').cell? ⟨w.heap.size + 1 + 1, 2, none⟩ = some v := fun o o' => ((hinv.out.out.alloc o).alloc o').cell 2
      obtain ⟨i0, hi0, hz0, hz1, hz2⟩ := info_parts info25
      have hsz : w.heap.size + 1 + 1 < wr.heap.size := hinv.out.out.lt
      go_wp2_with (at_builtin; refine wpList_app _ (.tmp 28) (.tmp 49) 40 rfl rfl (w.heap.size + 3) 25 i0 _ 9 72 Tryd.underlying40 hi0 hz0 hz1 hz2 rfl ?q1 v k _ rfl (((hinv.out.own.alloc _).alloc _).alloc _) (wr.heap.size + 1 + 1 + 1) (some ⟨wr.heap.size + 1 + 1, 0, none⟩) 1 1 cc.cells rfl ?q5 (cells_one cc) ?q2 ?q3 ?q4 ?_; (case q1 => omega); (case q5 => exact rowN_reads2 wr _ _ cc.cells 1 9 25 _ rfl rfl); (case q2 => (unfold maxLen; omega)); (case q3 => omega); (case q4 => (simp; omega)); intro A3 n3 c3 w3 hn3 ho3 hg3 hb3; have hG4 := (((hinv.out.out.alloc _).alloc _).alloc _).below hb3 (Nat.lt_succ_self _); have g4 := hG4.cell 2; have hf4 := hG4.frozen 2; have HN := Lib.hid (hinv.out.next ((((Below.refl _ _).alloc (Nat.le_refl _) _).alloc (by simp) _).alloc (by simp; omega) _) hb3 ho3); have HN3 := Lib.hid hn3; clear hG4 hn3 ho3 hg3 hb3)
      rw [HTK.out] at HN
      obtain rfl := HN3.out
      go_roundw
      case rel => exact ⟨k + 1, _, by omega, by go_num, HN⟩
      case measure => simp [intOf]; omega
    · obtain rfl : k = n := by omega
      have HTA : Hid (colCells (t.cols.take k) = colCells t.cols) := show _ = _ by rw [List.take_of_length_le (by have := HLC.out; omega)]
      rw [HTA.out] at hinv
      have g3 : wr.cell? ⟨w.heap.size, 3, none⟩ = some (.slice A2 n2 c2) := hinv.out.arg.cell 3
      clear hlt hk
      have HI2 : Hid (BInv2 w wr #[.string t.name, .int .i64 t.ver, .slice A k c, .slice A2 n2 c2, .int .u64 (t.rows : Int), .int .u64 (t.ents : Int)] #[.string t.name, .int .i64 t.ver, v, .slice none 0 0, .int .u64 (t.rows : Int), .int .u64 (t.ents : Int)] v k (colCells t.cols) (.slice none 0 0) 0 (idxCells (t.idxs.take 0))) :=
        ⟨hinv.out.below, hinv.out.arg, hinv.out.res, hinv.out.out, hinv.out.own, World.ownsRow_nil _ _ _ _⟩
      clear hinv
      go_wp2
      go_loopw [56] (fun i wr => ∃ (q : Nat) (u : Value), q ≤ n2 ∧ i = .int .i64 q ∧ Hid (BInv2 w wr #[.string t.name, .int .i64 t.ver, .slice A k c, .slice A2 n2 c2, .int .u64 (t.rows : Int), .int .u64 (t.ents : Int)] #[.string t.name, .int .i64 t.ver, v, u, .int .u64 (t.rows : Int), .int .u64 (t.ents : Int)] v k (colCells t.cols) u q (idxCells (t.idxs.take q)))) (fun i _ => n2 - (intOf i).toNat)
      case atStart => exact ⟨0, _, Nat.zero_le _, rfl, HI2⟩
      case round =>
        clear HI2 g3
        obtain ⟨q, u, hq, rfl, hinv⟩ := hrel
        by_cases hlt : q < n2
        · obtain ⟨hl, b, off, hA, hbB, f0, f1⟩ := idx_facts (HX.out.below hinv.out.below) hlt
          subst hA
          have HTK := Lib.hid (idx_take t.idxs q hl)
          generalize t.idxs[q] = cc at *
          have g2 : wr.cell? ⟨w.heap.size + 1 + 1, 3, none⟩ = some u := hinv.out.out.cell 3
          obtain ⟨i0, hi0, hz0, hz1, hz2⟩ := info_parts info78
          have hsz : w.heap.size + 1 + 1 < wr.heap.size := hinv.out.out.lt
          go_wp2_with (at_builtin; refine wpList_app _ (.tmp 61) (.tmp 67) 41 rfl rfl (w.heap.size + 3) 78 i0 _ 2 24 Tryd.underlying41 hi0 hz0 hz1 hz2 rfl ?q1 u q _ rfl ((hinv.out.own2.alloc _).alloc _) (wr.heap.size + 1 + 1) (some ⟨wr.heap.size + 1, 0, none⟩) 1 1 cc.cells rfl ?q5 (icells_one cc) ?q2 ?q3 ?q4 ?_; (case q1 => omega); (case q5 => exact rowN_reads1 wr _ cc.cells 1 2 78 _ rfl rfl); (case q2 => (unfold maxLen; omega)); (case q3 => omega); (case q4 => (simp; omega)); intro A3 n3 c3 w3 hn3 ho3 hg3 hb3; have hG4 := ((hinv.out.out.alloc _).alloc _).below hb3 (Nat.lt_succ_self _); have g4 := hG4.cell 3; have hf4 := hG4.frozen 3; have HN := Lib.hid (hinv.out.next (((Below.refl _ _).alloc (Nat.le_refl _) _).alloc (by simp) _) hg3 hb3 ho3); have HN3 := Lib.hid hn3; clear hG4 hn3 ho3 hg3 hb3)
          rw [HTK.out] at HN
          obtain rfl := HN3.out
          go_roundw
          case rel => exact ⟨q + 1, _, by omega, by go_num, HN⟩
          case measure => simp [intOf]; omega
        · obtain rfl : q = n2 := by omega
          have HTB : Hid (idxCells (t.idxs.take q) = idxCells t.idxs) := show _ = _ by rw [List.take_of_length_le (by have := HLX.out; omega)]
          rw [HTB.out] at hinv
          obtain ⟨Av, cv, rfl⟩ := own_slice hinv.out.own
          obtain ⟨Au, cu, rfl⟩ := own_slice hinv.out.own2
          have hcv := own_cap hinv.out.own
          have hcu := own_cap hinv.out.own2
          have o0 := hinv.out.out.cell 0
          have o1 := hinv.out.out.cell 1
          have o2 := hinv.out.out.cell 2
          have o3 := hinv.out.out.cell 3
          have o4 := hinv.out.out.cell 4
          have o5 := hinv.out.out.cell 5
          have r0 := hinv.out.res.cell 0
          have r1 := hinv.out.res.cell 1
          have r2 := hinv.out.res.cell 2
          have r3 := hinv.out.res.cell 3
          have r4 := hinv.out.res.cell 4
          have r5 := hinv.out.res.cell 5
          have z0 := hinv.out.res.frozen 0
          have z1 := hinv.out.res.frozen 1
          have z2 := hinv.out.res.frozen 2
          have z3 := hinv.out.res.frozen 3
          have z4 := hinv.out.res.frozen 4
          have z5 := hinv.out.res.frozen 5
          simp at o0 o1 o2 o3 o4 o5 r0 r1 r2 r3 r4 r5
          clear hlt hq HTB HTA
          go_wp2
          refine bodyPost_ret (v := .agg #[.string t.name, .int .i64 t.ver, .slice Av k cv, .slice Au q cu, .int .u64 (t.rows : Int), .int .u64 (t.ents : Int)]) (by simp [results, Tryd.results30, go_sem, r0, r1, r2, r3, r4, r5]) rfl ⟨_, rfl, ⟨Av, k, cv, Au, q, cu, rfl, Reads.of_own (base := w.heap.size + 3) (e := 25) (c := cv) ?_, Reads.of_own (base := w.heap.size + 3) (e := 78) (c := cu) ?_, hcv.1, hcu.1⟩, ?_⟩
          · iterate 6 (refine own_far ?_ (by show w.heap.size + 1 < w.heap.size + 3; omega) _)
            exact hinv.out.own
          · iterate 6 (refine own_far ?_ (by show w.heap.size + 1 < w.heap.size + 3; omega) _)
            exact hinv.out.own2
          · iterate 6 (refine Below.setCell ?_ (by show w.heap.size ≤ w.heap.size + 1; omega) _)
            exact hinv.out.below
end Go.Proofs.YtophcoaikelopaaDoor
