/- The walks and laws that the claim leans on, part 8: each part says ahead of its lines what it holds. -/
import Derived.Test.YtklpeghhgoeeiaaGreatDoorJag
import Derived.Deep.CutRange
import Derived.Deep.RegionWith
/- device.of, device.New. -/
namespace Go.Proofs.YtklpeghhgoeeiaaGreatDoor
open Go.RowKit
theorem infoLine : (Tryz.prog.info? 239).map (fun i => (i.zero, i.size, i.bytes)) = some (some (.agg #[.int .u64 0, .slice none 0 0]), 2, 32) := by kernel_rfl
/-- Behind the making of the parts. -/
def Of1 (w wx : World) (pb L : Nat) (v : Value) : Prop := ∃ d cb cc lb cs ls, v = .pointer (some ⟨d, 0, none⟩) ∧ Blk wx d 138 #[.slice (some ⟨pb, 0, none⟩) (8 * L) (8 * L), .slice (some ⟨cb, 0, none⟩) (8 * L) cc, .slice (some ⟨lb, 0, none⟩) L L, .pointer none, .pointer none, .pointer none, .pointer none, .pointer none, .pointer none, .pointer none, .pointer none, .bool false, .bool false, .int .i64 0, .int .u64 0] ∧
  Blk wx cb 35 cs ∧ cs.size = cc ∧ 8 * L ≤ cc ∧ cc ≤ 9223372036854775807 ∧ RowU cs (List.replicate (8 * L) 0) ∧ Blk wx lb 239 ls ∧ ls = madeCells (Value.agg #[.int .u64 0, .slice none 0 0]).cells (L * 2) ∧ Below w.heap.size w wx ∧ w.heap.size ≤ cb ∧ w.heap.size ≤ lb ∧ w.heap.size ≤ d
theorem Blk.new2 (w : World) (o : Obj) (t : TypeId) (cs : Array Value) : Blk ((w.alloc o).alloc (.cells cs t)) (w.heap.size + 1) t cs := by
  have h := Blk.new (w.alloc o) t cs
  rw [show (w.alloc o).heap.size = w.heap.size + 1 by simp] at h
  exact h
theorem of_join {w wx : World} {pb L d lb m1 c1 : Nat} {A1 : Option Addr} (h0 : 0 < L) (hd : Blk wx d 138 #[.slice (some ⟨pb, 0, none⟩) (8 * L) (8 * L), .slice A1 m1 c1, .slice (some ⟨lb, 0, none⟩) L L, .pointer none, .pointer none, .pointer none, .pointer none, .pointer none, .pointer none, .pointer none, .pointer none, .bool false, .bool false, .int .i64 0, .int .u64 0]) (ho : wx.ownsRow w.heap.size 35 1 (.slice A1 m1 c1) m1 (uCells (List.replicate (8 * L) 0))) (hm : m1 = 8 * L)
    (hl : Blk wx lb 239 (madeCells (Value.agg #[.int .u64 0, .slice none 0 0]).cells (L * 2))) (hb : Below w.heap.size w wx) (h1 : w.heap.size ≤ lb) (h2 : w.heap.size ≤ d) : Of1 w wx pb L (.pointer (some ⟨d, 0, none⟩)) := by
  obtain ⟨g, cap, hve, hgb, hglt⟩ := ho.form (by omega)
  have hA : A1 = some ⟨g, 0, none⟩ := by injection hve
  subst hA
  obtain ⟨cur, hcb, hcs, hru, hxl⟩ := own_row ho
  have hcap := own_cap ho
  subst hm
  exact ⟨d, g, c1, lb, cur, _, rfl, hd, hcb, hcs, by omega, by omega, hru, hl, rfl, hb, hgb, h1, h2⟩
/-- While the threads are made. -/
structure OfI (w wr : World) (pb L d cb cc lb : Nat) (cs ls : Array Value) (th nt : Nat → Nat) (k : Nat) : Prop where
  dev : ∃ dc, Blk wr d 138 dc ∧ dc.size = 15 ∧ dc[0]? = some (.slice (some ⟨pb, 0, none⟩) (8 * L) (8 * L)) ∧ dc[1]? = some (.slice (some ⟨cb, 0, none⟩) (8 * L) cc) ∧ dc[2]? = some (.slice (some ⟨lb, 0, none⟩) L L) ∧ dc[11]? = some (.bool false) ∧ dc[12]? = some (.bool false) ∧ dc[13]? = some (.int .i64 0) ∧ dc[14]? = some (.int .u64 0) ∧ ∀ j, j < k → dc[3 + j]? = some (.pointer (some ⟨th j, 0, none⟩))
  cur : Blk wr cb 35 cs
  lin : Blk wr lb 239 ls
  thr : ∀ j, j < k → Blk wr (th j) 141 #[.pointer (some ⟨d, 0, none⟩), .int .i64 (j : Int), .int .i64 0, .map (some (nt j))]
  map : 0 < k → wr.ownsMap Tryz.prog 3 (plainElem Tryz.prog 35) (nt 0) 0 (.map ([] : List (Lit × DataW Unit)))
  below : Below w.heap.size w wr
  gd : w.heap.size ≤ d
  gt : ∀ j, j < k → w.heap.size ≤ th j ∧ w.heap.size ≤ nt j
theorem ofStep {w wr : World} {pb L d cb cc lb : Nat} {cs ls : Array Value} {th nt : Nat → Nat} {k : Nat} (H : OfI w wr pb L d cb cc lb cs ls th nt k) (hk : k < 8) :
    OfI w (((wr.setCell ⟨d, 3 + k, none⟩ (.pointer (some ⟨wr.heap.size + 1, 0, none⟩))).alloc (.map #[] 0)).alloc (.cells #[.pointer (some ⟨d, 0, none⟩), .int .i64 (k : Int), .int .i64 0, .map (some wr.heap.size)] 141)) pb L d cb cc lb cs ls (fun j => if j = k then wr.heap.size + 1 else th j) (fun j => if j = k then wr.heap.size else nt j) (k + 1) := by
  obtain ⟨⟨dc, hd, hds, e0, e1, e2, e3, e4, e5, e6, e7⟩, hcu, hli, hth, hmp, hbl, hgd, hgt⟩ := H
  have hs : (wr.setCell ⟨d, 3 + k, none⟩ (.pointer (some ⟨wr.heap.size + 1, 0, none⟩))).heap.size = wr.heap.size := by simp
  have hc : Chg (fun g => g = d) wr (((wr.setCell ⟨d, 3 + k, none⟩ (.pointer (some ⟨wr.heap.size + 1, 0, none⟩))).alloc (.map #[] 0)).alloc (.cells #[.pointer (some ⟨d, 0, none⟩), .int .i64 (k : Int), .int .i64 0, .map (some wr.heap.size)] 141)) := (((Chg.refl (fun g => g = d) wr).setCell (p := ⟨d, 3 + k, none⟩) (.inl rfl) _).alloc _).alloc _
  refine ⟨⟨_, ((hd.set_ (3 + k) _).alloc _).alloc _, by simpa using hds, ?_, ?_, ?_, ?_, ?_, ?_, ?_, ?_⟩, hc.blk hcu (fun e => hcu.ne_ hd (by decide) e), hc.blk hli (fun e => hli.ne_ hd (by decide) e), ?_, ?_, ?_, hgd, ?_⟩
  · rw [Array.getElem?_setIfInBounds_ne (by omega)]; exact e0
  · rw [Array.getElem?_setIfInBounds_ne (by omega)]; exact e1
  · rw [Array.getElem?_setIfInBounds_ne (by omega)]; exact e2
  · rw [Array.getElem?_setIfInBounds_ne (by omega)]; exact e3
  · rw [Array.getElem?_setIfInBounds_ne (by omega)]; exact e4
  · rw [Array.getElem?_setIfInBounds_ne (by omega)]; exact e5
  · rw [Array.getElem?_setIfInBounds_ne (by omega)]; exact e6
  · intro j hj
    by_cases hjk : j = k
    · subst hjk
      rw [Array.getElem?_setIfInBounds_self_of_lt (by omega)]
      simp
    · rw [Array.getElem?_setIfInBounds_ne (by omega), e7 j (by omega)]
      simp [hjk]
  · intro j hj
    by_cases hjk : j = k
    · subst hjk
      have h := Blk.new2 (wr.setCell ⟨d, 3 + j, none⟩ (.pointer (some ⟨wr.heap.size + 1, 0, none⟩))) (.map #[] 0) 141 #[.pointer (some ⟨d, 0, none⟩), .int .i64 (j : Int), .int .i64 0, .map (some wr.heap.size)]
      rw [hs] at h
      simpa using h
    · have h := hc.blk (hth j (by omega)) (fun e => (hth j (by omega)).ne_ hd (by decide) e)
      simpa [hjk] using h
  · intro _
    by_cases hk0 : 0 = k
    · subst hk0
      have h := World.ownsMap_made (H := Unit) (wr.setCell ⟨d, 3 + 0, none⟩ (.pointer (some ⟨wr.heap.size + 1, 0, none⟩))) Tryz.prog 3 (plainElem Tryz.prog 35)
      rw [hs] at h
      have h2 := ((Chg.refl Fp.no _).alloc (.cells #[.pointer (some ⟨d, 0, none⟩), .int .i64 ((0 : Nat) : Int), .int .i64 0, .map (some wr.heap.size)] 141)).map h (fun h => h)
      simpa using h2
    · have h := hc.map (hmp (by omega)) (fun e => map_ne_blk (hmp (by omega)) hd e)
      simpa [hk0] using h
  · have h1 := (hbl.setCell (p := ⟨d, 3 + k, none⟩) hgd (.pointer (some ⟨wr.heap.size + 1, 0, none⟩)))
    exact (h1.alloc h1.size _).alloc (Nat.le_trans h1.size (by simp)) _
  · intro j hj
    have := hbl.size
    by_cases hjk : j = k
    · simp [hjk]; omega
    · simpa [hjk] using hgt j (by omega)
/-- Behind device.of. -/
def RetOf (w : World) (pb L : Nat) (e : Ending) (w' : World) : Prop := ∃ (d cb cc lb : Nat) (cs ls : Array Value) (th nt : Nat → Nat), e = .returned (.pointer (some ⟨d, 0, none⟩)) ∧ OfI w w' pb L d cb cc lb cs ls th nt 8 ∧ cs.size = cc ∧ 8 * L ≤ cc ∧ cc ≤ 9223372036854775807 ∧ RowU cs (List.replicate (8 * L) 0) ∧ ls = madeCells (Value.agg #[.int .u64 0, .slice none 0 0]).cells (L * 2) ∧ w.heap.size ≤ cb ∧ w.heap.size ≤ lb
set_option maxRecDepth 100000 in
set_option maxHeartbeats 8000000 in
theorem of_any (pb L : Nat) (hL : L ≤ 4096) (h0 : 0 < L) (w : World) (hp : Reads w w.heap.size 1 (some ⟨pb, 0, none⟩) (8 * L) (uCells (List.replicate (8 * L) 0))) :
    Calls Tryz.prog 104 #[.slice (some ⟨pb, 0, none⟩) (8 * L) (8 * L)] w (RetOf w pb L) := by
  obtain ⟨j0, hj0, hk0, hk1, hk2⟩ := info_parts infoLine
  have hmk : ∀ W : World, (Instr.makeSlice 135 (.int .i64 (L : Int)) (.int .i64 (L : Int))).run Tryz.prog W = .ok (.slice (some ⟨W.heap.size, 0, none⟩) L L) (W.alloc (.cells (madeCells (Value.agg #[.int .u64 0, .slice none 0 0]).cells (L * 2)) 239)) := fun W => by
    have h := run_makeSlice (P := Tryz.prog) W 135 239 j0 _ Tryz.underlying135 hj0 hk0 .i64 .i64 (L : Int) (L : Int) (by omega) (by omega) (by rw [hk1]; omega) (by rw [hk2]; omega) (by omega)
    rw [hk1] at h
    simpa using h
  have HJ : Hid (∀ (wx : World) (d lb m1 c1 : Nat) (A1 : Option Addr), _) := fun wx d lb m1 c1 A1 => of_join (w := w) (wx := wx) (pb := pb) (d := d) (lb := lb) (m1 := m1) (c1 := c1) (A1 := A1) h0
  generalize madeCells (Value.agg #[.int .u64 0, .slice none 0 0]).cells (L * 2) = M at *
  have HC := Lib.hid (fun (W : World) (hW : Below w.heap.size w W) => cloneU_any ⟨pb, 0, none⟩ (8 * L) (8 * L) _ W ((hp.below hW).more hW.size) (by omega))
  generalize hN : 8 * L = N at *
  have d1 : (N : Int).tdiv 8 = (L : Int) := by rw [Int.tdiv_eq_ediv_of_nonneg (by omega)]; omega
  have d2 : (N : Int) / 8 = (L : Int) := by omega
  have wL : IntKind.i64.wrap (L : Int) = (L : Int) := by rw [IntKind.wrap_i64]; omega
  have HN := Lib.hid hN
  clear hN hp
  go_enter Tryz.func104, Tryz.ntmps104
  go_wp2_with fail
  go_cut [3] from 5 to 13 (fun v wx => Hid (Of1 w wx pb L v))
  case first =>
    go_region_with (go_at_call 166; refine (HC.out _ (by first | exact (Below.refl _ _).drew | exact (Below.refl _ _).drew.alloc (Nat.le_refl _) _)).mono ?_; rintro e w1 ⟨A1, m1, c1, rfl, hm1, ho1, hb1⟩; have HO1 := Lib.hid ho1; have HB1 := Lib.hid hb1; have HM1 := Lib.hid hm1; clear ho1 hb1 hm1)
    · go_wp2_with fail
      go_meet
      exact HJ.out _ _ _ _ _ _ (Blk.new2 _ _ _ _) ((HO1.out.alloc _).alloc _) HM1.out ((Blk.new _ _ _).alloc _) (((Below.refl w.heap.size w).drew.trans HB1.out).alloc HB1.out.size _ |>.alloc (Nat.le_trans HB1.out.size (by simp)) _) HB1.out.size (Nat.le_trans HB1.out.size (by simp))
    · go_wp2_with fail
      go_meet
      have hb : Below w.heap.size w w1 := ((Below.refl w.heap.size w).drew.alloc (Nat.le_refl _) _).trans (HB1.out.mono (by simp))
      exact HJ.out _ _ _ _ _ _ (Blk.new _ _ _) ((own_le HO1.out (by simp)).alloc _) HM1.out (((Blk.new w.drew _ _).below HB1.out (Blk.new w.drew _ _).lt).alloc _) (hb.alloc hb.size _) (Nat.le_refl _) hb.size
  case rest =>
    obtain ⟨d, cb, cc, lb, cs, ls, rfl, hd, hc, hcs, hc1, hc2, hru, hl, hls, hb, g1, g2, g3⟩ := hcut.out
    have HI0 : Hid (OfI w wc pb L d cb cc lb cs ls (fun _ => 0) (fun _ => 0) 0) := ⟨⟨_, hd, rfl, rfl, rfl, rfl, rfl, rfl, rfl, rfl, fun j hj => by omega⟩, hc, hl, fun j hj => by omega, fun h => by omega, hb, g3, fun j hj => by omega⟩
    have HF := Lib.hid (show cs.size = cc ∧ 8 * L ≤ cc ∧ cc ≤ 9223372036854775807 ∧ RowU cs (List.replicate (8 * L) 0) ∧ ls = madeCells (Value.agg #[.int .u64 0, .slice none 0 0]).cells (L * 2) ∧ w.heap.size ≤ cb ∧ w.heap.size ≤ lb from ⟨hcs, hc1, hc2, hru, hls, g1, g2⟩)
    clear hcut hd hc hru hl hls hb HC HJ hmk d1 d2 wL
    go_wp2
    go_loopw [14] (fun i wr => ∃ (k : Nat) (th nt : Nat → Nat), k ≤ 8 ∧ i = .int .i64 k ∧ Hid (OfI w wr pb L d cb cc lb cs ls th nt k)) (fun i _ => 8 - (intOf i).toNat)
    case atStart => exact ⟨0, _, _, Nat.zero_le _, rfl, HI0⟩
    case round =>
      clear HI0
      obtain ⟨k, th, nt, hk, rfl, H⟩ := hrel
      by_cases hlt : k < 8
      · obtain ⟨dc, hdb, hds, _⟩ := H.out.dev
        obtain ⟨u0, hu0⟩ : ∃ u, dc[3 + k]? = some u := ⟨_, Array.getElem?_eq_getElem (by omega)⟩
        have c0 : wr.cell? ⟨d, 3 + k, none⟩ = some u0 := by rw [hdb.cell]; exact hu0
        have c1 : wr.frozen? ⟨d, 3 + k, none⟩ = false := hdb.frozen _
        have hdl := hdb.lt
        have hmm : ∀ W : World, (Instr.makeMap 139 none).run Tryz.prog W = .ok (.map (some W.heap.size)) (W.alloc (.map #[] 0)) := fun _ => rfl
        have hz0 : (0 : Int) ≤ (k : Int) := by omega
        have hz1 : (k : Int) < 8 := by omega
        have HN1 := Lib.hid (ofStep H.out hlt)
        clear H hdb hds hu0
        go_wp2
        exact ⟨⟨k + 1, _, _, by omega, by go_num, HN1⟩, by simp [intOf]; omega⟩
      · obtain rfl : k = 8 := by omega
        go_wp2
        go_ret
        exact ⟨d, cb, cc, lb, cs, ls, th, nt, rfl, H.out, HF.out⟩
end Go.Proofs.YtklpeghhgoeeiaaGreatDoor
/- device.New. -/
namespace Go.Proofs.YtklpeghhgoeeiaaGreatDoor
open Go.RowKit
theorem made_at (z : Array Value) (n i : Nat) (h : i < n) : (madeCells z n)[i]? = some z[i % z.size]! := by
  unfold madeCells
  rw [Array.getElem?_map, Array.getElem?_range, if_pos h]
  rfl
theorem made_line (L i : Nat) (hi : i < L) : (madeCells (Value.agg #[.int .u64 0, .slice none 0 0]).cells (L * 2))[i * 2]? = some (.int .u64 0) ∧ (madeCells (Value.agg #[.int .u64 0, .slice none 0 0]).cells (L * 2))[i * 2 + 1]? = some (.slice none 0 0) := by
  have hz : (Value.agg #[.int .u64 0, .slice none 0 0]).cells = #[.int .u64 0, .slice none 0 0] := rfl
  rw [hz, made_at _ _ _ (by omega), made_at _ _ _ (by omega)]
  have e1 : i * 2 % (#[Value.int .u64 0, Value.slice none 0 0] : Array Value).size = 0 := by show i * 2 % 2 = 0; omega
  have e2 : (i * 2 + 1) % (#[Value.int .u64 0, Value.slice none 0 0] : Array Value).size = 1 := by show (i * 2 + 1) % 2 = 1; omega
  rw [e1, e2]
  exact ⟨rfl, rfl⟩
/-- A new device. -/
def RetNew (w : World) (L : Nat) (e : Ending) (w' : World) : Prop := ∃ (a : DA) (S : Fp), e = .returned (.tuple #[.pointer (some ⟨a.d, 0, none⟩), .int .i64 0]) ∧ Dev a L 0 w' S (fun _ => 0) 0 ∧ (∀ k, S k → w.heap.size ≤ k) ∧ Below w.heap.size w w'
theorem dev_cells {dc : Array Value} {a : DA} {L : Nat} (hs : dc.size = 15) (e0 : dc[0]? = some (.slice (some ⟨a.pb, 0, none⟩) (8 * L) (8 * L))) (e1 : dc[1]? = some (.slice (some ⟨a.cb, 0, none⟩) (8 * L) a.cc)) (e2 : dc[2]? = some (.slice (some ⟨a.lb, 0, none⟩) L L)) (e3 : dc[11]? = some (.bool false)) (e4 : dc[12]? = some (.bool false)) (e5 : dc[13]? = some (.int .i64 0)) (e6 : dc[14]? = some (.int .u64 0))
    (e7 : ∀ j, j < 8 → dc[3 + j]? = some (.pointer (some ⟨a.th j, 0, none⟩))) : dc = devCells a L 0 := by
  apply Array.ext_getElem?
  intro i
  by_cases hi : i < 15
  · rcases (show i = 0 ∨ i = 1 ∨ i = 2 ∨ i = 3 ∨ i = 4 ∨ i = 5 ∨ i = 6 ∨ i = 7 ∨ i = 8 ∨ i = 9 ∨ i = 10 ∨ i = 11 ∨ i = 12 ∨ i = 13 ∨ i = 14 by omega) with rfl | rfl | rfl | rfl | rfl | rfl | rfl | rfl | rfl | rfl | rfl | rfl | rfl | rfl | rfl
    · exact e0
    · exact e1
    · exact e2
    · exact e7 0 (by omega)
    · exact e7 1 (by omega)
    · exact e7 2 (by omega)
    · exact e7 3 (by omega)
    · exact e7 4 (by omega)
    · exact e7 5 (by omega)
    · exact e7 6 (by omega)
    · exact e7 7 (by omega)
    · exact e3
    · exact e4
    · exact e5
    · exact e6
  · rw [Array.getElem?_eq_none (by omega), Array.getElem?_eq_none (by show 15 ≤ i; omega)]
theorem dev_new {w w' : World} {L d cb cc lb : Nat} {per cs ls : Array Value} {th nt : Nat → Nat} (hL : L ≤ 4096) (hp : per = madeCells #[.int .u64 0] (8 * L)) (H : OfI (w.alloc (.cells per 35)) w' w.heap.size L d cb cc lb cs ls th nt 8) (h1 : cs.size = cc) (h2 : 8 * L ≤ cc) (h3 : cc ≤ 9223372036854775807)
    (hru : RowU cs (List.replicate (8 * L) 0)) (hls : ls = madeCells (Value.agg #[.int .u64 0, .slice none 0 0]).cells (L * 2)) (g1 : (w.alloc (.cells per 35)).heap.size ≤ cb) (g2 : (w.alloc (.cells per 35)).heap.size ≤ lb) :
    RetNew w L (.returned (.tuple #[.pointer (some ⟨d, 0, none⟩), .int .i64 0])) w' := by
  obtain ⟨⟨dc, hd, hds, e0, e1, e2, e3, e4, e5, e6, e7⟩, hcu, hli, hth, hmp, hbl, hgd, hgt⟩ := H
  have hsz : (w.alloc (.cells per 35)).heap.size = w.heap.size + 1 := by simp
  rw [hsz] at g1 g2 hgd hgt
  have hbw : Below w.heap.size w w' := ((Below.refl w.heap.size w).alloc (Nat.le_refl _) _).trans (hbl.mono (by omega))
  have hpb : Blk w' w.heap.size 35 per := (Blk.new w 35 per).below hbl (Blk.new w 35 per).lt
  have hdc := dev_cells (a := ⟨d, w.heap.size, cb, lb, nt, th, cc⟩) hds e0 e1 e2 e3 e4 e5 e6 e7
  subst hdc
  have hmz := hmp (by omega)
  have hml := hmz.lt
  refine ⟨⟨d, w.heap.size, cb, lb, nt, th, cc⟩, fun k => w.heap.size ≤ k ∧ k < w'.heap.size, rfl, ⟨⟨fun _ => 0, fun _ => 0, fun _ => .slice none 0 0, fun _ => []⟩, 0, per, cs, ls, ?_, ⟨[], hmz, fun p hp => by cases hp⟩⟩, fun k hk => hk.1, hbw⟩
  exact {
    dev := hd
    perB := hpb
    perS := by rw [hp, size_madeCells]
    perI := fun i hi => ⟨0, by rw [hp, made_at _ _ _ hi]; congr 1; show (#[Value.int .u64 0] : Array Value)[i % 1]! = _; rw [Nat.mod_one]; rfl⟩
    curB := hcu
    curS := h1
    curL := h2
    curM := h3
    curI := fun i hi => by have := hru.2 i (by simpa using hi); simpa using this
    linB := hli
    linS := by rw [hls, size_madeCells]; omega
    linD := fun i hi => by rw [hls]; exact (made_line L i hi).1
    linH := fun i hi => by rw [hls]; exact (made_line L i hi).2
    own := fun i hi => World.ownsRow_nil _ _ _ _
    ok := fun i hi k hk => absurd hk (by simp)
    few := fun i hi => Nat.le_refl _
    apart := fun i j g hi hj h => by cases h
    thr := hth
    sd := ⟨by show w.heap.size ≤ d; omega, hd.lt⟩
    sp := ⟨Nat.le_refl _, hpb.lt⟩
    sc := ⟨by show w.heap.size ≤ cb; omega, hcu.lt⟩
    sl := ⟨by show w.heap.size ≤ lb; omega, hli.lt⟩
    sn := ⟨by have := (hgt 0 (by omega)).2; show w.heap.size ≤ nt 0; omega, hml⟩
    st := fun j hj => ⟨by have := (hgt j hj).1; show w.heap.size ≤ th j; omega, (hth j hj).lt⟩
    sh := fun i g hi h => by cases h
    lt := fun k hk => hk.2
    ne := by show w.heap.size ≠ cb; omega
    hL := hL
    hT := by omega }
set_option maxRecDepth 100000 in
set_option maxHeartbeats 4000000 in
theorem new_any (L : Nat) (h0 : 0 < L) (hL : L ≤ 4096) (w : World) : Calls Tryz.prog 40 #[.int .i64 (L : Int)] w (RetNew w L) := by
  obtain ⟨j0, hj0, hk0, hk1, hk2⟩ := info_parts infoU64
  have hmk : ∀ W : World, (Instr.makeSlice 57 (.int .i64 ((8 * L : Nat) : Int)) (.int .i64 ((8 * L : Nat) : Int))).run Tryz.prog W = .ok (.slice (some ⟨W.heap.size, 0, none⟩) (8 * L) (8 * L)) (W.alloc (.cells (madeCells #[.int .u64 0] (8 * L)) 35)) := fun W => by
    have h := run_makeSlice (P := Tryz.prog) W 57 35 j0 (.int .u64 0) Tryz.underlying57 hj0 hk0 .i64 .i64 ((8 * L : Nat) : Int) ((8 * L : Nat) : Int) (by omega) (by omega) (by rw [hk1]; omega) (by rw [hk2]; omega) (by omega)
    rw [hk1, Int.toNat_natCast, Nat.mul_one] at h
    exact h
  have HO := Lib.hid (of_any w.heap.size L hL h0 (w.alloc (.cells (madeCells #[.int .u64 0] (8 * L)) 35)) (by
    rw [show (w.alloc (.cells (madeCells #[.int .u64 0] (8 * L)) 35)).heap.size = w.heap.size + 1 by simp]
    refine row_reads_at w _ rfl _ (8 * L) 1 35 _ ?_ ?_
    · refine congrArg (fun x => Obj.cells x 35) (Array.ext' ?_)
      rw [toList_madeCells_one]
      simp [uCells]
    · simp [uCells]))
  have HN : Hid (∀ e w', RetOf (w.alloc (.cells (madeCells #[.int .u64 0] (8 * L)) 35)) w.heap.size L e w' → ∃ d : Nat, e = .returned (.pointer (some ⟨d, 0, none⟩)) ∧ RetNew w L (.returned (.tuple #[.pointer (some ⟨d, 0, none⟩), .int .i64 0])) w') := by
    rintro e w1 ⟨d, cb, cc, lb, cs, ls, th, nt, rfl, h1, h2, h3, h4, h5, h6, h7, h8⟩
    exact ⟨d, rfl, dev_new hL rfl h1 h2 h3 h4 h5 h6 h7 h8⟩
  have e1 : decide ((L : Int) < 1) = false := decide_eq_false (by omega)
  have e2 : decide ((4096 : Int) < (L : Int)) = false := decide_eq_false (by omega)
  have u1 : IntKind.i64.wrap ((L : Int) * 8) = ((8 * L : Nat) : Int) := by rw [IntKind.wrap_i64]; omega
  have u2 : (L : Int) * 8 = ((8 * L : Nat) : Int) := by omega
  generalize madeCells #[.int .u64 0] (8 * L) = M at *
  generalize 8 * L = N at *
  go_enter Tryz.func40, Tryz.ntmps40
  go_wp2_with (go_at_call 104; refine HO.out.mono ?_; intro e w1 h1; obtain ⟨d, rfl, h2⟩ := HN.out e w1 h1; have HZ := Lib.hid h2; clear h1 h2)
  go_ret2
  exact HZ.out
end Go.Proofs.YtklpeghhgoeeiaaGreatDoor
/- undo.Open, redo.Open. -/
namespace Go.Proofs.YtklpeghhgoeeiaaGreatDoor
open Go.RowKit
/-- The cells of an undo log. -/
def ulogCells (a : DA) (s n : Nat) : Array Value := #[memV a, .int .u64 ((64 * s : Nat) : Int), .int .i64 (n : Int)]
set_option maxRecDepth 100000 in
set_option maxHeartbeats 4000000 in
theorem undoOpen_any {a : DA} {L T : Nat} {w : World} {S : Fp} {cur : Nat → Nat} {F : Nat} (h : Dev a L T w S cur F) (s n : Nat) (hn : 2 ≤ n) (hs : s + n ≤ L) :
    Calls Tryz.prog 114 #[memV a, .int .i64 (s : Int), .int .i64 (n : Int)] w fun e w' => e = .returned (.tuple #[.pointer (some ⟨w.heap.size, 0, none⟩), .int .i64 0]) ∧ w' = w.alloc (.cells (ulogCells a s n) 186) := by
  obtain ⟨ls, exe, per, cs, lsC, hdc, hnt⟩ := h
  have hL := hdc.hL
  obtain ⟨f0, f2, _, _, _⟩ := hdc.facts (j := 0) (by omega)
  clear hdc hnt
  have hq := eqMem (some ⟨a.th 0, 0, none⟩)
  have hmS := methSize (some ⟨a.th 0, 0, none⟩)
  unfold memV ulogCells memV
  have e1 : decide ((s : Int) < 0) = false := decide_eq_false (by omega)
  have e2 : decide ((n : Int) < 2) = false := decide_eq_false (by omega)
  have u1 : IntKind.u64.wrap ((L : Int) * 64) = (L : Int) * 64 := by rw [IntKind.wrap_u64]; omega
  have u2 : IntKind.u64.wrap (n : Int) = (n : Int) := by rw [IntKind.wrap_u64]; omega
  have u3 : IntKind.u64.wrap (s : Int) = (s : Int) := by rw [IntKind.wrap_u64]; omega
  have u4 : IntKind.u64.wrap ((L : Int) - (n : Int)) = (L : Int) - (n : Int) := by rw [IntKind.wrap_u64]; omega
  have u5 : IntKind.u64.wrap ((s : Int) * 64) = ((64 * s : Nat) : Int) := by rw [IntKind.wrap_u64]; omega
  have d1 : ((L : Int) * 64).tdiv 64 = (L : Int) := by rw [Int.mul_tdiv_cancel _ (by decide)]
  have e3 : decide ((L : Int) < (n : Int)) = false := decide_eq_false (by omega)
  have e4 : decide ((L : Int) - (n : Int) < (s : Int)) = false := decide_eq_false (by omega)
  go_enter Tryz.func114, Tryz.ntmps114
  go_wp2
  go_ret2
  exact ⟨rfl, rfl⟩
set_option maxRecDepth 100000 in
set_option maxHeartbeats 4000000 in
theorem redoOpen_any {a : DA} {L T : Nat} {w : World} {S : Fp} {cur : Nat → Nat} {F : Nat} (h : Dev a L T w S cur F) (s n : Nat) (hn : 26 ≤ n) (hs : s + n ≤ L) :
    Calls Tryz.prog 113 #[memV a, .int .i64 (s : Int), .int .i64 (n : Int)] w fun e w' => e = .returned (.tuple #[.pointer (some ⟨w.heap.size, 0, none⟩), .int .i64 0]) ∧ w' = w.alloc (.cells (logCells a s n) 246) := by
  have HH := Lib.hid (handle_any h s n hn hs)
  clear h
  unfold memV at *
  go_enter Tryz.func113, Tryz.ntmps113
  go_wp2_with (go_at_call 105; refine HH.out.mono ?_; rintro e w1 ⟨rfl, rfl⟩)
  go_ret2
  exact ⟨rfl, rfl⟩
end Go.Proofs.YtklpeghhgoeeiaaGreatDoor
/- redo: look and Recover of an idle log. -/
namespace Go.Proofs.YtklpeghhgoeeiaaGreatDoor
open Go.RowKit
theorem aheadLoad (p : Addr) (w : World) : (nilAhead 466 53 (.pointer (some p)) "Load").run Tryz.prog w = .ok (some false) w := by kernel_rfl
theorem load_at {a : DA} {L T : Nat} {w : World} {S : Fp} {cur : Nat → Nat} {F : Nat} (h : Dev a L T w S cur F) (off v : Nat) (h8 : off % 8 = 0) (hlt : off < 64 * L) (hv : cur (off / 8) = v) (W : World) (hW : Below w.heap.size w W) :
    Calls Tryz.prog 19 #[.pointer (some ⟨a.th 0, 0, none⟩), .int .u64 (off : Int)] W fun e w' => e = .returned (.int .u64 (v : Int)) ∧ W = w' := by
  obtain ⟨s, exe, per, cs, ls, hdc, _⟩ := h.below hW
  subst hv
  exact load_any hdc (by omega) off h8 hlt
set_option maxRecDepth 100000 in
set_option maxHeartbeats 4000000 in
theorem look_idle {a : DA} {L T : Nat} {w : World} {S : Fp} {cur : Nat → Nat} {F : Nat} (h : Dev a L T w S cur F) (g s n : Nat) (hB : Blk w g 246 (logCells a s n)) (hs : s < L) (h0 : cur (8 * s) = 0) :
    Calls Tryz.prog 175 #[.pointer (some ⟨g, 0, none⟩)] w fun e w' => e = .returned (.tuple #[.int .u8 1, .slice none 0 0]) ∧ Below w.heap.size w w' := by
  have HLd := Lib.hid (load_at h (64 * s) 0 (by omega) (by omega) (by rw [show 64 * s / 8 = 8 * s by omega]; exact h0))
  have hna := aheadLoad ⟨a.th 0, 0, none⟩
  have hm := methLoad (some ⟨a.th 0, 0, none⟩)
  have HBB := Lib.hid hB
  have f0 : w.cell? ⟨g, 0, none⟩ = some (memV a) := hB.cell 0
  have f1 : w.cell? ⟨g, 1, none⟩ = some (.int .u64 ((64 * s : Nat) : Int)) := hB.cell 1
  have HB0 : Hid (Below w.heap.size w w.drew) := (Below.refl _ _).drew
  unfold memV at *
  generalize 64 * s = z at *
  clear hB h
  go_enter Tryz.func175, Tryz.ntmps175
  go_wp2_with fail
  go_cut [5] from 16 to 24 (fun v wx => v = .int .u64 0 ∧ Hid (Below w.heap.size w wx))
  case first =>
    go_region_with (go_at_call 19; refine (HLd.out _ HB0.out).mono ?_; rintro e w1 ⟨rfl, rfl⟩)
    all_goals (go_wp2_with fail; go_meet; exact ⟨rfl, HB0⟩)
  case rest =>
    obtain ⟨rfl, HW⟩ := hcut
    go_wp2
    go_ret2
    exact ⟨rfl, HW.out⟩
end Go.Proofs.YtklpeghhgoeeiaaGreatDoor
/- redo.Recover of an idle log. -/
namespace Go.Proofs.YtklpeghhgoeeiaaGreatDoor
open Go.RowKit
set_option maxRecDepth 100000 in
set_option maxHeartbeats 4000000 in
theorem redoRecover_idle {a : DA} {L T : Nat} {w : World} {S : Fp} {cur : Nat → Nat} {F : Nat} (h : Dev a L T w S cur F) (g s n : Nat) (hB : Blk w g 246 (logCells a s n)) (hs : s < L) (h0 : cur (8 * s) = 0) :
    Calls Tryz.prog 115 #[.pointer (some ⟨g, 0, none⟩)] w fun e w' => e = .returned (.tuple #[.int .i64 0, .int .i64 0]) ∧ Below w.heap.size w w' := by
  have HL := Lib.hid (look_idle h g s n hB hs h0)
  have HD := Lib.hid h
  have HBB := Lib.hid hB
  have c0 : w.cell? ⟨g, 0, none⟩ = some (memV a) := hB.cell 0
  obtain ⟨ls, exe, per, cs, lsC, hdc, hnt⟩ := h
  obtain ⟨f0, _, _, _, f4⟩ := hdc.facts (j := 0) (by omega)
  have hmE := methErr (some ⟨a.th 0, 0, none⟩)
  have hq := eqMem (some ⟨a.th 0, 0, none⟩)
  clear hdc hnt hB
  unfold memV at *
  go_enter Tryz.func115, Tryz.ntmps115
  go_wp2_with (first
    | (go_at_call 175; refine HL.out.mono ?_; rintro e w1 ⟨rfl, hb1⟩; have HW := Lib.hid hb1; have d0 : w1.cell? ⟨g, 0, none⟩ = some (.iface 53 (.pointer (some ⟨a.th 0, 0, none⟩))) := (HBB.out.below hb1 HBB.out.lt).cell 0; obtain ⟨ls1, exe1, per1, cs1, lsC1, hdc1, hnt1⟩ := HD.out.below hb1; obtain ⟨k0, _, _, _, k4⟩ := hdc1.facts (j := 0) (by omega); clear hb1 hdc1 hnt1)
    | go_in)
  go_ret2
  exact ⟨rfl, HW.out⟩
end Go.Proofs.YtklpeghhgoeeiaaGreatDoor
/- undo: Saved and Recover where nothing is saved. -/
namespace Go.Proofs.YtklpeghhgoeeiaaGreatDoor
open Go.RowKit
set_option maxRecDepth 100000 in
set_option maxHeartbeats 4000000 in
theorem saved_none {a : DA} {L T : Nat} {w : World} {S : Fp} {cur : Nat → Nat} {F : Nat} (h : Dev a L T w S cur F) (g s n : Nat) (hB : Blk w g 186 (ulogCells a s n)) (hs : s < L) (hn : 2 ≤ n) (hn2 : n ≤ 4096) (h0 : cur (8 * s) = 0) :
    Calls Tryz.prog 254 #[.pointer (some ⟨g, 0, none⟩)] w fun e w' => e = .returned (.slice none 0 0) ∧ Below w.heap.size w w' := by
  have HLd := Lib.hid (load_at h (64 * s) 0 (by omega) (by omega) (by rw [show 64 * s / 8 = 8 * s by omega]; exact h0))
  have hm := methLoad (some ⟨a.th 0, 0, none⟩)
  have hna := aheadLoad ⟨a.th 0, 0, none⟩
  have hq := eqMem (some ⟨a.th 0, 0, none⟩)
  have HBB := Lib.hid hB
  have f0 : w.cell? ⟨g, 0, none⟩ = some (memV a) := hB.cell 0
  have f1 : w.cell? ⟨g, 1, none⟩ = some (.int .u64 ((64 * s : Nat) : Int)) := hB.cell 1
  have HB0 : Hid (Below w.heap.size w w.drew) := (Below.refl _ _).drew
  have u1 : IntKind.u64.wrap (4 * ((n : Int) - 1)) = 4 * ((n : Int) - 1) := by rw [IntKind.wrap_u64]; omega
  have e1 : decide (4 * ((n : Int) - 1) < 0) = false := decide_eq_false (by omega)
  have hz0 : (2 : Int) ≤ (n : Int) := by omega
  have hz1 : (n : Int) ≤ 4096 := by omega
  unfold memV at *
  generalize 64 * s = z at *
  clear hB h
  go_enter Tryz.func254, Tryz.ntmps254
  go_wp2
  go_cut [4] from 14 to 22 (fun v wx => v = .int .u64 0 ∧ Hid (Below w.heap.size w wx))
  case first =>
    go_region_with (go_at_call 19; refine (HLd.out _ HB0.out).mono ?_; rintro e w1 ⟨rfl, rfl⟩)
    all_goals (go_wp2_with fail; go_meet; exact ⟨rfl, HB0⟩)
  case rest =>
    obtain ⟨rfl, HW⟩ := hcut
    have k0 : wc.cell? ⟨g, 0, none⟩ = some (.iface 53 (.pointer (some ⟨a.th 0, 0, none⟩))) := (HBB.out.below HW.out HBB.out.lt).cell 0
    have k2 : wc.cell? ⟨g, 2, none⟩ = some (.int .i64 (n : Int)) := (HBB.out.below HW.out HBB.out.lt).cell 2
    go_wp2
    go_loopw [5, 30] (fun l i wr => l = .slice none 0 0 ∧ i = .int .i64 0 ∧ Hid (Below w.heap.size w wr)) (fun _ _ _ => 0)
    case atStart => exact ⟨rfl, rfl, HW⟩
    case round =>
      obtain ⟨rfl, rfl, HR⟩ := hrel
      go_wp2
      go_ret
      exact ⟨rfl, HR.out⟩
set_option maxRecDepth 100000 in
set_option maxHeartbeats 4000000 in
theorem entries_none {a : DA} {L T : Nat} {w : World} {S : Fp} {cur : Nat → Nat} {F : Nat} (h : Dev a L T w S cur F) (g s n : Nat) (hB : Blk w g 186 (ulogCells a s n)) (hs : s < L) (hn : 2 ≤ n) (hn2 : n ≤ 4096) (h0 : cur (8 * s) = 0) :
    Calls Tryz.prog 217 #[.pointer (some ⟨g, 0, none⟩)] w fun e w' => e = .returned (.tuple #[.slice none 0 0, .int .i64 0]) ∧ Below w.heap.size w w' := by
  have HL := Lib.hid (saved_none h g s n hB hs hn hn2 h0)
  have HD := Lib.hid h
  have HBB := Lib.hid hB
  have c0 : w.cell? ⟨g, 0, none⟩ = some (memV a) := hB.cell 0
  obtain ⟨ls, exe, per, cs, lsC, hdc, hnt⟩ := h
  obtain ⟨f0, _, _, _, f4⟩ := hdc.facts (j := 0) (by omega)
  have hmE := methErr (some ⟨a.th 0, 0, none⟩)
  have hq := eqMem (some ⟨a.th 0, 0, none⟩)
  clear hdc hnt hB
  unfold memV at *
  go_enter Tryz.func217, Tryz.ntmps217
  go_wp2_with (first
    | (go_at_call 254; refine HL.out.mono ?_; rintro e w1 ⟨rfl, hb1⟩; have HW := Lib.hid hb1; have d0 : w1.cell? ⟨g, 0, none⟩ = some (.iface 53 (.pointer (some ⟨a.th 0, 0, none⟩))) := (HBB.out.below hb1 HBB.out.lt).cell 0; obtain ⟨ls1, exe1, per1, cs1, lsC1, hdc1, hnt1⟩ := HD.out.below hb1; obtain ⟨k0, _, _, _, k4⟩ := hdc1.facts (j := 0) (by omega); clear hb1 hdc1 hnt1)
    | go_in)
  go_ret2
  exact ⟨rfl, HW.out⟩
end Go.Proofs.YtklpeghhgoeeiaaGreatDoor
/- undo: load and Recover where nothing is saved. -/
namespace Go.Proofs.YtklpeghhgoeeiaaGreatDoor
open Go.RowKit
set_option maxRecDepth 100000 in
set_option maxHeartbeats 4000000 in
theorem loadU_none {a : DA} {L T : Nat} {w : World} {S : Fp} {cur : Nat → Nat} {F : Nat} (h : Dev a L T w S cur F) (g s n : Nat) (hB : Blk w g 186 (ulogCells a s n)) (hs : s < L) (hn : 2 ≤ n) (hn2 : n ≤ 4096) (h0 : cur (8 * s) = 0) :
    Calls Tryz.prog 177 #[.pointer (some ⟨g, 0, none⟩)] w fun e w' => e = .returned (.tuple #[.slice none 0 0, .bool true, .int .i64 0]) ∧ Below w.heap.size w w' := by
  have HL := Lib.hid (entries_none h g s n hB hs hn hn2 h0)
  clear h hB
  go_enter Tryz.func177, Tryz.ntmps177
  go_wp2_with (go_at_call 217; refine HL.out.mono ?_; rintro e w1 ⟨rfl, hb1⟩; have HW := Lib.hid hb1; clear hb1)
  go_loopw [7, 20] (fun l i wr => l = .slice none 0 0 ∧ i = .int .i64 0 ∧ Hid (Below w.heap.size w wr)) (fun _ _ _ => 0)
  case atStart => exact ⟨rfl, rfl, HW⟩
  case round =>
    obtain ⟨rfl, rfl, HR⟩ := hrel
    go_wp2
    go_ret3
    exact ⟨rfl, HR.out⟩
set_option maxRecDepth 100000 in
set_option maxHeartbeats 4000000 in
theorem undoRecover_none {a : DA} {L T : Nat} {w : World} {S : Fp} {cur : Nat → Nat} {F : Nat} (h : Dev a L T w S cur F) (g s n : Nat) (hB : Blk w g 186 (ulogCells a s n)) (hs : s < L) (hn : 2 ≤ n) (hn2 : n ≤ 4096) (h0 : cur (8 * s) = 0) :
    Calls Tryz.prog 116 #[.pointer (some ⟨g, 0, none⟩)] w fun e w' => e = .returned (.tuple #[.int .i64 0, .int .i64 0]) ∧ Below w.heap.size w w' := by
  have HL := Lib.hid (loadU_none h g s n hB hs hn hn2 h0)
  clear h hB
  go_enter Tryz.func116, Tryz.ntmps116
  go_wp2_with (go_at_call 177; refine HL.out.mono ?_; rintro e w1 ⟨rfl, hb1⟩; have HW := Lib.hid hb1; clear hb1)
  go_ret2
  exact ⟨rfl, HW.out⟩
end Go.Proofs.YtklpeghhgoeeiaaGreatDoor
/- chunk.header of the word of an undivided chunk of owner 1. -/
namespace Go.Proofs.YtklpeghhgoeeiaaGreatDoor
open Go.RowKit
set_option maxRecDepth 100000 in
set_option maxHeartbeats 4000000 in
theorem header_free (w : World) (ht : Tab w) :
    Calls Tryz.prog 235 #[.int .u64 (freeW 1 : Int)] w fun e w' => e = .returned (.tuple #[.agg #[.int .i64 (-1), .int .i64 (-1), .int .u16 1], .bool true]) ∧ Below w.heap.size w w' := by
  have HS := Lib.hid (fun (W : World) (hW : Below w.heap.size w W) => seal_any 3305111553 (by omega) W (ht.below hW))
  have hf : freeW 1 = sealW 3305111553 := rfl
  have hs : IntKind.u32.wrap (sealW 3305111553 : Int) = 3305111553 := by
    rw [IntKind.wrap_u32']
    unfold sealW
    omega
  rw [hf]
  generalize sealW 3305111553 = z at *
  have HB0 : Hid (∀ x, Below w.heap.size w (w.alloc x)) := fun x => (Below.refl _ _).alloc (Nat.le_refl _) x
  have b1 : bits .and .u32 50432 15 = 0 := by decide
  have b2 : bits .and .u32 3152 15 = 0 := by decide
  have b3 : IntKind.u16.wrap 3305111553 = 1 := by decide
  have q1 : ((z : Int) == (z : Int)) = true := by simp
  clear ht hf
  go_enter Tryz.func235, Tryz.ntmps235
  go_wp2_with (go_at_call 252; refine (HS.out _ (HB0.out _)).mono ?_; rintro e w1 ⟨rfl, hb1⟩; have HB1 := Lib.hid hb1; have hk := (Blk.new w 213 #[.int .i64 0, .int .i64 0, .int .u16 0]).below hb1 (Blk.new w 213 #[.int .i64 0, .int .i64 0, .int .u16 0]).lt; have hlt := hk.lt; have c0 : w1.cell? ⟨w.heap.size, 0, none⟩ = some (.int .i64 0) := hk.cell 0; have c1 : w1.cell? ⟨w.heap.size, 1, none⟩ = some (.int .i64 0) := hk.cell 1; have c2 : w1.cell? ⟨w.heap.size, 2, none⟩ = some (.int .u16 0) := hk.cell 2; have z0 : w1.frozen? ⟨w.heap.size, 0, none⟩ = false := hk.frozen 0; have z1 : w1.frozen? ⟨w.heap.size, 1, none⟩ = false := hk.frozen 1; have z2 : w1.frozen? ⟨w.heap.size, 2, none⟩ = false := hk.frozen 2; clear hb1 hk)
  have n01 : (⟨w.heap.size, 0, none⟩ : Addr) ≠ ⟨w.heap.size, 1, none⟩ := by simp
  have n02 : (⟨w.heap.size, 0, none⟩ : Addr) ≠ ⟨w.heap.size, 2, none⟩ := by simp
  have n12 : (⟨w.heap.size, 1, none⟩ : Addr) ≠ ⟨w.heap.size, 2, none⟩ := by simp
  refine bodyPost_ret (v := .tuple #[.agg #[.int .i64 (-1), .int .i64 (-1), .int .u16 1], .bool true]) (by simp [results, Tryz.results235, go_sem, c0, c1, c2, hlt]) rfl ⟨rfl, ?_⟩
  have h0 := (HB0.out (.cells #[.int .i64 0, .int .i64 0, .int .u16 0] 213)).trans (HB1.out.mono (by simp))
  have h1 := ((h0.setCell (p := ⟨w.heap.size, 0, none⟩) (Nat.le_refl _) (.int .i64 (-1))).setCell (p := ⟨w.heap.size, 1, none⟩) (Nat.le_refl _) (.int .i64 (-1))).setCell (p := ⟨w.heap.size, 2, none⟩) (Nat.le_refl _) (.int .u16 1)
  exact h1.alloc h1.size _
end Go.Proofs.YtklpeghhgoeeiaaGreatDoor
/- chunk.Look at an undivided chunk of owner 1. -/
namespace Go.Proofs.YtklpeghhgoeeiaaGreatDoor
open Go.RowKit
set_option maxRecDepth 100000 in
set_option maxHeartbeats 4000000 in
theorem look_free {a : DA} {L T : Nat} {w : World} {S : Fp} {cur : Nat → Nat} {F : Nat} (h : Dev a L T w S cur F) (ht : Tab w) (c : Nat) (hc : c + 32 ≤ L) (hv : cur (8 * c) = freeW 1) :
    Calls Tryz.prog 194 #[memV a, .int .i64 (c : Int)] w fun e w' => e = .returned (.tuple #[.agg #[.int .i64 (-1), .int .i64 (-1), .int .u16 1], .int .i64 0]) ∧ Below w.heap.size w w' := by
  have HLd := Lib.hid (load_at h (64 * c) (freeW 1) (by omega) (by omega) (by rw [show 64 * c / 8 = 8 * c by omega]; exact hv))
  have HD := Lib.hid h
  have HH := Lib.hid (fun (W : World) (hW : Below w.heap.size w W) => header_free W (ht.below hW))
  have hm := methLoad (some ⟨a.th 0, 0, none⟩)
  have hna := aheadLoad ⟨a.th 0, 0, none⟩
  have hmE := methErr (some ⟨a.th 0, 0, none⟩)
  have hmS := methSize (some ⟨a.th 0, 0, none⟩)
  have hq := eqMem (some ⟨a.th 0, 0, none⟩)
  have HB0 : Hid (Below w.heap.size w (w.alloc (.cells #[.int .i64 0, .int .i64 0, .int .u16 0] 213))) := (Below.refl _ _).alloc (Nat.le_refl _) _
  obtain ⟨ls, exe, per, cs, lsC, hdc, hnt⟩ := h.below HB0.out
  have hL := hdc.hL
  obtain ⟨f0, f2, _, _, f4⟩ := hdc.facts (j := 0) (by omega)
  have HBk := Lib.hid (Blk.new w 213 #[.int .i64 0, .int .i64 0, .int .u16 0])
  clear hdc hnt h ht
  unfold memV at *
  have e1 : decide ((c : Int) < 0) = false := decide_eq_false (by omega)
  have u1 : IntKind.u64.wrap ((L : Int) * 64) = (L : Int) * 64 := by rw [IntKind.wrap_u64]; omega
  have u3 : IntKind.u64.wrap (c : Int) = (c : Int) := by rw [IntKind.wrap_u64]; omega
  have u4 : IntKind.u64.wrap ((L : Int) - 32) = (L : Int) - 32 := by rw [IntKind.wrap_u64]; omega
  have u5 : IntKind.u64.wrap ((c : Int) * 64) = ((64 * c : Nat) : Int) := by rw [IntKind.wrap_u64]; omega
  have d1 : ((L : Int) * 64).tdiv 64 = (L : Int) := by rw [Int.mul_tdiv_cancel _ (by decide)]
  have e2 : decide ((L : Int) < 32) = false := decide_eq_false (by omega)
  have e3 : decide ((L : Int) - 32 < (c : Int)) = false := decide_eq_false (by omega)
  generalize 64 * c = z at *
  go_enter Tryz.func194, Tryz.ntmps194
  go_wp2
  generalize w.alloc (.cells #[.int .i64 0, .int .i64 0, .int .u16 0] 213) = W at *
  have HB1 : Hid (Below W.heap.size W W.drew) := (Below.refl _ _).drew
  have HB2 : Hid (Below w.heap.size w W.drew) := HB0.out.drew
  go_cut [8] from 38 to 44 (fun v wx => v = .int .u64 (freeW 1 : Int) ∧ Hid (Below W.heap.size W wx))
  case first =>
    go_region_with (first | (go_at_call 19; refine (HLd.out _ HB2.out).mono ?_; rintro e w1 ⟨rfl, rfl⟩) | go_in)
    all_goals (go_wp2_with fail; go_meet; exact ⟨rfl, HB1⟩)
  case rest =>
    obtain ⟨rfl, HW⟩ := hcut
    have HWw := Lib.hid (HB0.out.trans (HW.out.mono HB0.out.size))
    obtain ⟨ls1, exe1, per1, cs1, lsC1, hdc1, hnt1⟩ := HD.out.below HWw.out
    obtain ⟨k0, _, _, _, k4⟩ := hdc1.facts (j := 0) (by omega)
    have HHw := Lib.hid (HH.out wc HWw.out)
    have HBc := Lib.hid (HBk.out.below HW.out HBk.out.lt)
    clear hdc1 hnt1
    go_wp2_with (first
      | (go_at_call 235; refine HHw.out.mono ?_; rintro e w1 ⟨rfl, hb1⟩; have HB3 := Lib.hid (HWw.out.trans (hb1.mono HWw.out.size)); have hk := HBc.out.below hb1 HBc.out.lt; have hlt := hk.lt; have c0 : w1.cell? ⟨w.heap.size, 0, none⟩ = some (.int .i64 0) := hk.cell 0; have c1 : w1.cell? ⟨w.heap.size, 1, none⟩ = some (.int .i64 0) := hk.cell 1; have c2 : w1.cell? ⟨w.heap.size, 2, none⟩ = some (.int .u16 0) := hk.cell 2; have z0 : w1.frozen? ⟨w.heap.size, 0, none⟩ = false := hk.frozen 0; have z1 : w1.frozen? ⟨w.heap.size, 1, none⟩ = false := hk.frozen 1; have z2 : w1.frozen? ⟨w.heap.size, 2, none⟩ = false := hk.frozen 2; clear hb1 hk)
      | go_in)
    refine bodyPost_ret (v := .tuple #[.agg #[.int .i64 (-1), .int .i64 (-1), .int .u16 1], .int .i64 0]) (by simp [results, Tryz.results194, go_sem, c0, c1, c2, hlt]) rfl ⟨rfl, ?_⟩
    have h1 := ((HB3.out.setCell (p := ⟨w.heap.size, 0, none⟩) (Nat.le_refl _) (.int .i64 (-1))).setCell (p := ⟨w.heap.size, 1, none⟩) (Nat.le_refl _) (.int .i64 (-1))).setCell (p := ⟨w.heap.size, 2, none⟩) (Nat.le_refl _) (.int .u16 1)
    exact h1.alloc h1.size _
end Go.Proofs.YtklpeghhgoeeiaaGreatDoor
