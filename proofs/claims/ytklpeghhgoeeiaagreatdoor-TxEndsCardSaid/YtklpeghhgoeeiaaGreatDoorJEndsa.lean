/- The walks and laws that the claim leans on, part 1: each part says ahead of its lines what it holds. -/
import Derived.Test.YtklpeghhgoeeiaaGreatDoorJau
/- What comes in as an array of two truth values. -/
namespace Go.Proofs.YtklpeghhgoeeiaaGreatDoor
open Go.ChangeShapes Go.WideShapes Go.ChangeAt Go.RowKit
section
variable {H : Type} {enc : TypeId × Value → H} {W : World} {b0 base : Nat} {sp : Nat → Bool} {held : Bool} {v : Value} {d : DataW H} {p : List MemPlace} {r : Reach}
theorem cellsB2 : Tryz.prog.cellsOf 70 = 2 := by kernel_rfl
theorem cellsB : Tryz.prog.cellsOf 4 = 1 := by kernel_rfl
set_option maxRecDepth 100000 in
theorem bool_read {m : Nat} {x : Value} {y : DataW H × List MemPlace} (h : DataW.trod enc Tryz.prog W base sp held m 4 [x] = some y) : ∃ b, x = .bool b := by
  cases m with
  | zero => simp [DataW.trod] at h
  | succ m =>
    unfold DataW.trod at h
    rw [Tryz.underlying4] at h
    cases x with
    | bool b => exact ⟨b, rfl⟩
    | _ => cases h
set_option maxRecDepth 100000 in
theorem b2_of (hv : Value.okWide Tryz.prog W r b0 70 v) (h : DataW.Trod enc Tryz.prog W base sp held 70 v d p) : ∃ u : Bool × Bool, v = .agg #[.bool u.1, .bool u.2] := by
  obtain ⟨cs, rfl, hs, _⟩ : ∃ cs, v = .agg cs ∧ cs.size = Tryz.prog.cellsOf 70 ∧ Row.okWide Tryz.prog W r b0 70 cs := by
    simpa only [Value.okWide, Tryz.underlying70] using hv
  rw [cellsB2] at hs
  obtain ⟨x, y, rfl⟩ : ∃ x y, cs = #[x, y] := by
    obtain ⟨l⟩ := cs
    match l, hs with
    | [x, y], _ => exact ⟨x, y, rfl⟩
  obtain ⟨m, hm⟩ := h
  obtain ⟨xs, m, rfl, _, _, hl, he⟩ := DataW.trod_array Tryz.underlying70 hm
  have e0 := he 0 (by omega)
  have e1 := he 1 (by omega)
  rw [cellsB] at e0 e1
  have g0 : xs[0]? = some xs[0] := List.getElem?_eq_getElem (by omega)
  have g1 : xs[1]? = some xs[1] := List.getElem?_eq_getElem (by omega)
  rw [g0] at e0
  rw [g1] at e1
  obtain ⟨b, hb⟩ := bool_read (x := x) (by simpa [Value.cells] using e0)
  obtain ⟨b', hb'⟩ := bool_read (x := y) (by simpa [Value.cells] using e1)
  subst hb
  subst hb'
  exact ⟨(b, b'), rfl⟩
end
end Go.Proofs.YtklpeghhgoeeiaaGreatDoor
/- tx: Store in mode Redo; Store out of the memory, one word too many. -/
namespace Go.Proofs.YtklpeghhgoeeiaaGreatDoor
open Go.RowKit Go.Maps Go.Sort Go.Shelf
set_option maxRecDepth 100000 in
set_option maxHeartbeats 1000000 in
theorem enter_redo {c : CX} {g : Nat} {w : World} {S : Fp} {t : TX} {D : DataW Unit} {n : Nat} {cur : Nat → Nat} {T : Nat} (h : TxS c g w S t D n cur T) (hmode : t.mode = 1) (o : Nat) :
    Calls Tryz.prog 53 #[.pointer (some ⟨g, 0, none⟩), .int .u64 (o : Int)] w fun e w' => e = .returned (cellV 0 0 false) ∧ Below w.heap.size w w' := by
  have c7 : (w.alloc (.cells #[.int .u64 0, .int .u64 0, .bool false] 107)).cell? ⟨g, 7, none⟩ = some (.int .u8 1) := ((h.tx.alloc _).cell 7).trans (by simp [txCells, hmode])
  have HB : Hid (Below w.heap.size w (w.alloc (.cells #[.int .u64 0, .int .u64 0, .bool false] 107))) := Lib.hid ((Below.refl _ w).alloc (Nat.le_refl _) _)
  have hlg : g < w.heap.size := h.tx.lt
  clear h
  go_enter Tryz.func53, Tryz.ntmps53
  go_wp2
  refine bodyPost_ret (v := cellV 0 0 false) (by simp [results, Tryz.results53, go_sem, cellV]) rfl ⟨rfl, HB.out⟩
/-- A block of the caller's own gets a cell, then the value. -/
def put5 (W : World) (b v : Nat) : World := (((W.setCell ⟨b, 0, none⟩ (.int .u64 0)).setCell ⟨b, 1, none⟩ (.int .u64 0)).setCell ⟨b, 2, none⟩ (.bool false)).setCell ⟨b, 0, none⟩ (.int .u64 (v : Int))
theorem TxS.put5 {c : CX} {g : Nat} {W : World} {S : Fp} {t : TX} {D : DataW Unit} {n : Nat} {cur : Nat → Nat} {T N : Nat} (h : TxS c g W S t D n cur T) (hl : TxLt c g t N) {b : Nat} (hb : N ≤ b) (hS : ¬ S b) (v : Nat) : TxS c g (put5 W b v) S t D n cur T :=
  (((h.other hl hb hS 0 _).other hl hb hS 1 _).other hl hb hS 2 _).other hl hb hS 0 _
theorem blk_put5 {W : World} {b : Nat} {tt : TypeId} {v1 x1 : Value} {p1 : Value} (h : Blk W b tt #[v1, x1, p1]) (v : Nat) : Blk (put5 W b v) b tt #[.int .u64 (v : Int), .int .u64 0, .bool false] :=
  (((h.set_ 0 (.int .u64 0)).set_ 1 (.int .u64 0)).set_ 2 (.bool false)).set_ 0 (.int .u64 (v : Int))
theorem put5_chg (W : World) (b v : Nat) : Chg (fun j => j = b) W (put5 W b v) :=
  ((((Chg.refl (fun j => j = b) W).setCell (p := ⟨b, 0, none⟩) (.inl rfl) _).setCell (p := ⟨b, 1, none⟩) (.inl rfl) _).setCell (p := ⟨b, 2, none⟩) (.inl rfl) _).setCell (p := ⟨b, 0, none⟩) (.inl rfl) _
/-- What a store in mode Redo leaves. -/
def RetSr (c : CX) (g : Nat) (w : World) (S : Fp) (t : TX) (D : DataW Unit) (n : Nat) (cur : Nat → Nat) (T : Nat) (e : Ending) (w' : World) : Prop :=
  e = .returned (.tuple #[]) ∧ TxS c g w' S t D n cur T ∧ Chg (fun j => j = t.words) w w'
set_option maxRecDepth 100000 in
set_option maxHeartbeats 2000000 in
theorem store_redo_new {c : CX} {g : Nat} {w : World} {S : Fp} {t : TX} {D : DataW Unit} {n : Nat} {cur : Nat → Nat} {T : Nat} (h : TxS c g w S t D n cur T) (hop : t.open_ = true) (hmode : t.mode = 1) (o v : Nat) (h8 : o % 8 = 0) (hlt : o < 64 * 152) (hD : has D (kU o) = false) (hsz : Maps.size D < 96) (hn : n ≤ 1000) :
    Calls Tryz.prog 13 #[.pointer (some ⟨g, 0, none⟩), .int .u64 (o : Int), .int .u64 (v : Int)] w (RetSr c g w S t (D.put (kU o) (cellD v 0 false)) (n + 1) cur T) := by
  have HLt := Lib.hid h.lts
  have hov : o < 18446744073709551616 := by omega
  have HWd := Lib.hid (word_in h o h8 hlt)
  have HMi := Lib.hid (mine_none h o hov)
  have HSn : Hid (∀ k, w.heap.size ≤ k → ¬ S k) := fun k hk hs => by have := h.base.dev.lt _ hs; omega
  obtain ⟨v1, x1, p1, hlk, _⟩ := look_cell h.maps.words hov
  rw [hD] at hlk
  have hbw : Below w.heap.size w (w.alloc (.cells #[.int .u64 (v1 : Int), .int .u64 (x1 : Int), .bool p1] 107)) := (Below.refl _ w).alloc (Nat.le_refl _) _
  have hxw := h.more_ hbw
  have HEn := Lib.hid (enter_redo hxw hmode o)
  have hlen : ∀ ty, (Builtin.len_ #[95] ty #[.map (some t.words)]).run Tryz.prog (w.alloc (.cells #[.int .u64 (v1 : Int), .int .u64 (x1 : Int), .bool p1] 107)) = .ok (.int .i64 (Maps.size D)) (w.alloc (.cells #[.int .u64 (v1 : Int), .int .u64 (x1 : Int), .bool p1] 107)) := fun ty => hxw.maps.words.len Tryz.underlying95 ty
  have e96 : decide (96 ≤ (Maps.size D : Int)) = false := decide_eq_false (by omega)
  have HB6 := Lib.hid (Blk.new w 107 #[.int .u64 (v1 : Int), .int .u64 (x1 : Int), .bool p1])
  have HXw := Lib.hid hxw
  have HBw := Lib.hid hbw
  have HSz : Hid (w.heap.size < (w.alloc (.cells #[.int .u64 (v1 : Int), .int .u64 (x1 : Int), .bool p1] 107)).heap.size) := Lib.hid (by simp)
  have c8 : w.cell? ⟨g, 8, none⟩ = some (.bool true) := (h.tx.cell 8).trans (by simp [txCells, hop])
  have c0 : w.cell? ⟨g, 0, none⟩ = some (.map (some t.words)) := h.tx.cell 0
  have d0 : (w.alloc (.cells #[.int .u64 (v1 : Int), .int .u64 (x1 : Int), .bool p1] 107)).cell? ⟨g, 0, none⟩ = some (.map (some t.words)) := hxw.tx.cell 0
  have hlg : g < w.heap.size := h.tx.lt
  clear h hxw hbw hop hmode hD
  unfold cellV at hlk
  go_enter Tryz.func13, Tryz.ntmps13
  go_wp2_with (first
    | (go_at_call 51; refine HWd.out.mono ?_; rintro e w1 ⟨rfl, rfl⟩)
    | (go_at_call 52; refine HMi.out.mono ?_; rintro e w1 ⟨rfl, rfl⟩)
    | (go_at_call 53; refine stop ?_)
    | go_in)
  unfold Stop
  refine HEn.out.mono ?_
  rintro e W1 ⟨rfl, hb1⟩
  unfold cellV
  have HX1 := Lib.hid (HXw.out.more_ hb1)
  have HB61 := Lib.hid (HB6.out.below hb1 HSz.out)
  have HBw1 := Lib.hid (HBw.out.trans (hb1.mono HBw.out.size))
  have HS6 := Lib.hid (HSn.out _ (Nat.le_refl _))
  clear hb1 HEn HWd HMi HXw HB6 HBw
  have b0 : W1.cell? ⟨w.heap.size, 0, none⟩ = some (.int .u64 (v1 : Int)) := HB61.out.cell 0
  have b1 : W1.cell? ⟨w.heap.size, 1, none⟩ = some (.int .u64 (x1 : Int)) := HB61.out.cell 1
  have b2 : W1.cell? ⟨w.heap.size, 2, none⟩ = some (.bool p1) := HB61.out.cell 2
  have z0 : W1.frozen? ⟨w.heap.size, 0, none⟩ = false := HB61.out.frozen 0
  have z1 : W1.frozen? ⟨w.heap.size, 1, none⟩ = false := HB61.out.frozen 1
  have z2 : W1.frozen? ⟨w.heap.size, 2, none⟩ = false := HB61.out.frozen 2
  have HX2 := Lib.hid (HX1.out.put5 HLt.out (Nat.le_refl _) HS6.out v)
  have HB62 := Lib.hid (blk_put5 HB61.out v)
  have HZ2 : Hid (Chg (fun j => j = t.words) w (put5 W1 w.heap.size v)) := Lib.hid ((Chg.of_below HBw1.out).trans ((put5_chg W1 w.heap.size v).mono (T := fun j => w.heap.size ≤ j) (fun k hk => by rw [hk]; exact Nat.le_refl _)) (fun k hk => .inr hk))
  have HW2 : Hid (put5 W1 w.heap.size v = (((W1.setCell ⟨w.heap.size, 0, none⟩ (.int .u64 0)).setCell ⟨w.heap.size, 1, none⟩ (.int .u64 0)).setCell ⟨w.heap.size, 2, none⟩ (.bool false)).setCell ⟨w.heap.size, 0, none⟩ (.int .u64 (v : Int))) := Lib.hid rfl
  go_wp2_with fail
  rw [← HW2.out]
  generalize put5 W1 w.heap.size v = W2 at *
  clear b0 b1 b2 z0 z1 z2 HX1 HB61 HW2
  have HX3d : Hid (TxS c g W2.drew S t D n cur T) := Lib.hid (HX2.out.more_ (Below.refl _ _).drew)
  obtain ⟨w3, hrun, hos, hgr⟩ := HX3d.out.maps.words.update keyedU Tryz.underlying95 (by unfold maxLen; omega) (keyU hov) (cellR_mk v 0 false)
  have HX4 := Lib.hid (HX3d.out.put hgr hos)
  have HZ4 := Lib.hid (HZ2.out.drew.grown hgr (fun g hg => .inl (by cases hg; rfl)))
  unfold cellV at hrun
  rw [show ((0 : Nat) : Int) = 0 from rfl] at hrun
  clear hos hgr
  have HS0 : Hid (W2.drew.cell? ⟨g, 0, none⟩ = some (.map (some t.words)) ∧ W2.drew.cell? ⟨w.heap.size, 0, none⟩ = some (.int .u64 (v : Int)) ∧ W2.drew.cell? ⟨w.heap.size, 1, none⟩ = some (.int .u64 0) ∧ W2.drew.cell? ⟨w.heap.size, 2, none⟩ = some (.bool false)) := Lib.hid ⟨HX3d.out.tx.cell 0, HB62.out.cell 0, HB62.out.cell 1, HB62.out.cell 2⟩
  refine wp_region_script (fun w' => w'.cell? ⟨g, 0, none⟩ = some (.map (some t.words)) ∧ w'.cell? ⟨w.heap.size, 0, none⟩ = some (.int .u64 (v : Int)) ∧ w'.cell? ⟨w.heap.size, 1, none⟩ = some (.int .u64 0) ∧ w'.cell? ⟨w.heap.size, 2, none⟩ = some (.bool false)) 7 [(true, 0), (true, 1), (true, 2), (true, 3), (true, 4), (true, 5), (true, 6)] (by kernel_rfl) (by kernel_rfl) HS0.out ?_
  refine wpScript_take (.pointer (some ⟨g, 0, none⟩)) (by rfl) (by rfl) (fun w' hS => ?_) ?_
  · go_simp
  simp only [List.getElem_toArray, List.getElem_cons_zero, Act.put, List.setIfInBounds_toArray, List.set_cons_zero, List.set_cons_succ]
  refine wpScript_take (.pointer (some ⟨g, 0, none⟩)) (by rfl) (by rfl) (fun w' hS => ?_) ?_
  · go_simp
  simp only [List.getElem_toArray, List.getElem_cons_zero, List.getElem_cons_succ, Act.put, List.setIfInBounds_toArray, List.set_cons_zero, List.set_cons_succ]
  refine wpScript_take (.pointer (some ⟨g, 0, none⟩)) (by rfl) (by rfl) (fun w' hS => ?_) ?_
  · go_simp
  simp only [List.getElem_toArray, List.getElem_cons_zero, List.getElem_cons_succ, Act.put, List.setIfInBounds_toArray, List.set_cons_zero, List.set_cons_succ]
  refine wpScript_take (.pointer (some ⟨g, 0, none⟩)) (by rfl) (by rfl) (fun w' hS => ?_) ?_
  · go_simp
  simp only [List.getElem_toArray, List.getElem_cons_zero, List.getElem_cons_succ, Act.put, List.setIfInBounds_toArray, List.set_cons_zero, List.set_cons_succ]
  refine wpScript_take (.map (some t.words)) (by rfl) (by rfl) (fun w' hS => ?_) ?_
  · obtain ⟨f1, _, _, _⟩ := hS
    go_simp
  simp only [List.getElem_toArray, List.getElem_cons_zero, List.getElem_cons_succ, Act.put, List.setIfInBounds_toArray, List.set_cons_zero, List.set_cons_succ]
  refine wpScript_take (.int .u64 (o : Int)) (by rfl) (by rfl) (fun w' hS => ?_) ?_
  · go_simp
  simp only [List.getElem_toArray, List.getElem_cons_zero, List.getElem_cons_succ, Act.put, List.setIfInBounds_toArray, List.set_cons_zero, List.set_cons_succ]
  refine wpScript_take (.agg #[.int .u64 (v : Int), .int .u64 0, .bool false]) (by rfl) (by rfl) (fun w' hS => ?_) ?_
  · obtain ⟨_, f1, f2, f3⟩ := hS
    go_simp
  simp only [List.getElem_toArray, List.getElem_cons_zero, List.getElem_cons_succ, Act.put, List.setIfInBounds_toArray, List.set_cons_zero, List.set_cons_succ]
  show wpList _ _ _ _ _ _
  simp only [List.drop_succ_cons, List.drop_zero]
  go_wp2
  refine NoPanic.normal ?_
  go_wp2
  go_end0
  exact ⟨rfl, HX4.out, HZ4.out⟩
set_option maxRecDepth 100000 in
set_option maxHeartbeats 2000000 in
theorem store_redo_old {c : CX} {g : Nat} {w : World} {S : Fp} {t : TX} {D : DataW Unit} {n : Nat} {cur : Nat → Nat} {T : Nat} (h : TxS c g w S t D n cur T) (hop : t.open_ = true) (o v : Nat) (h8 : o % 8 = 0) (hlt : o < 64 * 152) (v0 : Nat) (hD : has D (kU o) = true) (hat : D.atKey (kU o) (cellD 0 0 false) = cellD v0 0 false) (hn : n ≤ 1000) :
    Calls Tryz.prog 13 #[.pointer (some ⟨g, 0, none⟩), .int .u64 (o : Int), .int .u64 (v : Int)] w (RetSr c g w S t (D.put (kU o) (cellD v 0 false)) (n + 1) cur T) := by
  have HLt := Lib.hid h.lts
  have hov : o < 18446744073709551616 := by omega
  have HWd := Lib.hid (word_in h o h8 hlt)
  have HMi := Lib.hid (mine_none h o hov)
  have HSn : Hid (∀ k, w.heap.size ≤ k → ¬ S k) := fun k hk hs => by have := h.base.dev.lt _ hs; omega
  obtain ⟨v1, x1, p1, hlk, hc⟩ := look_cell h.maps.words hov
  rw [hat] at hc
  obtain ⟨rfl, rfl, rfl⟩ := cellD_inj hc
  rw [hD] at hlk
  have hbw : Below w.heap.size w (w.alloc (.cells #[.int .u64 (v0 : Int), .int .u64 0, .bool false] 107)) := (Below.refl _ w).alloc (Nat.le_refl _) _
  have HX1 := Lib.hid (h.more_ hbw)
  have HB61 := Lib.hid (Blk.new w 107 #[.int .u64 (v0 : Int), .int .u64 0, .bool false])
  have c8 : w.cell? ⟨g, 8, none⟩ = some (.bool true) := (h.tx.cell 8).trans (by simp [txCells, hop])
  have c0 : w.cell? ⟨g, 0, none⟩ = some (.map (some t.words)) := h.tx.cell 0
  have HX2 := Lib.hid (HX1.out.other HLt.out (Nat.le_refl _) (HSn.out _ (Nat.le_refl _)) 0 (.int .u64 (v : Int)))
  have HB62 : Hid (Blk ((w.alloc (.cells #[.int .u64 (v0 : Int), .int .u64 0, .bool false] 107)).setCell ⟨w.heap.size, 0, none⟩ (.int .u64 (v : Int))) w.heap.size 107 #[.int .u64 (v : Int), .int .u64 0, .bool false]) := Lib.hid (HB61.out.set_ 0 (.int .u64 (v : Int)))
  have hW2 : (w.alloc (.cells #[.int .u64 (v0 : Int), .int .u64 0, .bool false] 107)).setCell ⟨w.heap.size, 0, none⟩ (.int .u64 (v : Int)) = w.alloc (.cells #[.int .u64 (v : Int), .int .u64 0, .bool false] 107) := by simp [go_sem]
  rw [hW2] at HX2 HB62
  have HZ2 : Hid (Chg (fun j => j = t.words) w (w.alloc (.cells #[.int .u64 (v : Int), .int .u64 0, .bool false] 107))) := Lib.hid (Chg.of_below ((Below.refl _ w).alloc (Nat.le_refl _) _))
  have hlg : g < w.heap.size := h.tx.lt
  clear h hbw hop hD hat hc hW2 HB61 HX1
  unfold cellV at hlk
  go_enter Tryz.func13, Tryz.ntmps13
  go_wp2_with (first
    | (go_at_call 51; refine HWd.out.mono ?_; rintro e w1 ⟨rfl, rfl⟩)
    | (go_at_call 52; refine HMi.out.mono ?_; rintro e w1 ⟨rfl, rfl⟩)
    | go_in)
  generalize w.alloc (.cells #[.int .u64 (v : Int), .int .u64 0, .bool false] 107) = W2 at *
  clear HWd HMi
  have HX3d : Hid (TxS c g W2.drew S t D n cur T) := Lib.hid (HX2.out.more_ (Below.refl _ _).drew)
  obtain ⟨w3, hrun, hos, hgr⟩ := HX3d.out.maps.words.update keyedU Tryz.underlying95 (by unfold maxLen; omega) (keyU hov) (cellR_mk v 0 false)
  have HX4 := Lib.hid (HX3d.out.put hgr hos)
  have HZ4 := Lib.hid (HZ2.out.drew.grown hgr (fun g hg => .inl (by cases hg; rfl)))
  unfold cellV at hrun
  rw [show ((0 : Nat) : Int) = 0 from rfl] at hrun
  clear hos hgr
  have HS0 : Hid (W2.drew.cell? ⟨g, 0, none⟩ = some (.map (some t.words)) ∧ W2.drew.cell? ⟨w.heap.size, 0, none⟩ = some (.int .u64 (v : Int)) ∧ W2.drew.cell? ⟨w.heap.size, 1, none⟩ = some (.int .u64 0) ∧ W2.drew.cell? ⟨w.heap.size, 2, none⟩ = some (.bool false)) := Lib.hid ⟨HX3d.out.tx.cell 0, HB62.out.cell 0, HB62.out.cell 1, HB62.out.cell 2⟩
  refine wp_region_script (fun w' => w'.cell? ⟨g, 0, none⟩ = some (.map (some t.words)) ∧ w'.cell? ⟨w.heap.size, 0, none⟩ = some (.int .u64 (v : Int)) ∧ w'.cell? ⟨w.heap.size, 1, none⟩ = some (.int .u64 0) ∧ w'.cell? ⟨w.heap.size, 2, none⟩ = some (.bool false)) 7 [(true, 0), (true, 1), (true, 2), (true, 3), (true, 4), (true, 5), (true, 6)] (by kernel_rfl) (by kernel_rfl) HS0.out ?_
  refine wpScript_take (.pointer (some ⟨g, 0, none⟩)) (by rfl) (by rfl) (fun w' hS => ?_) ?_
  · go_simp
  simp only [List.getElem_toArray, List.getElem_cons_zero, Act.put, List.setIfInBounds_toArray, List.set_cons_zero, List.set_cons_succ]
  refine wpScript_take (.pointer (some ⟨g, 0, none⟩)) (by rfl) (by rfl) (fun w' hS => ?_) ?_
  · go_simp
  simp only [List.getElem_toArray, List.getElem_cons_zero, List.getElem_cons_succ, Act.put, List.setIfInBounds_toArray, List.set_cons_zero, List.set_cons_succ]
  refine wpScript_take (.pointer (some ⟨g, 0, none⟩)) (by rfl) (by rfl) (fun w' hS => ?_) ?_
  · go_simp
  simp only [List.getElem_toArray, List.getElem_cons_zero, List.getElem_cons_succ, Act.put, List.setIfInBounds_toArray, List.set_cons_zero, List.set_cons_succ]
  refine wpScript_take (.pointer (some ⟨g, 0, none⟩)) (by rfl) (by rfl) (fun w' hS => ?_) ?_
  · go_simp
  simp only [List.getElem_toArray, List.getElem_cons_zero, List.getElem_cons_succ, Act.put, List.setIfInBounds_toArray, List.set_cons_zero, List.set_cons_succ]
  refine wpScript_take (.map (some t.words)) (by rfl) (by rfl) (fun w' hS => ?_) ?_
  · obtain ⟨f1, _, _, _⟩ := hS
    go_simp
  simp only [List.getElem_toArray, List.getElem_cons_zero, List.getElem_cons_succ, Act.put, List.setIfInBounds_toArray, List.set_cons_zero, List.set_cons_succ]
  refine wpScript_take (.int .u64 (o : Int)) (by rfl) (by rfl) (fun w' hS => ?_) ?_
  · go_simp
  simp only [List.getElem_toArray, List.getElem_cons_zero, List.getElem_cons_succ, Act.put, List.setIfInBounds_toArray, List.set_cons_zero, List.set_cons_succ]
  refine wpScript_take (.agg #[.int .u64 (v : Int), .int .u64 0, .bool false]) (by rfl) (by rfl) (fun w' hS => ?_) ?_
  · obtain ⟨_, f1, f2, f3⟩ := hS
    go_simp
  simp only [List.getElem_toArray, List.getElem_cons_zero, List.getElem_cons_succ, Act.put, List.setIfInBounds_toArray, List.set_cons_zero, List.set_cons_succ]
  show wpList _ _ _ _ _ _
  simp only [List.drop_succ_cons, List.drop_zero]
  go_wp2
  refine NoPanic.normal ?_
  go_wp2
  go_end0
  exact ⟨rfl, HX4.out, HZ4.out⟩
set_option maxRecDepth 100000 in
set_option maxHeartbeats 1000000 in
theorem word_out {c : CX} {g : Nat} {w : World} {S : Fp} {t : TX} {D : DataW Unit} {n : Nat} {cur : Nat → Nat} {T : Nat} (h : TxS c g w S t D n cur T) (o : Nat) (hbad : o % 8 ≠ 0 ∨ 64 * 152 ≤ o) :
    Calls Tryz.prog 51 #[.pointer (some ⟨g, 0, none⟩), .int .u64 (o : Int)] w fun e w' => e = .returned (.bool false) ∧ w = w' := by
  have c6 : w.cell? ⟨g, 6, none⟩ = some (.pointer (some ⟨c.x.m, 0, none⟩)) := h.tx.cell 6
  have m0 : w.cell? ⟨c.x.m, 0, none⟩ = some (.pointer (some ⟨c.a.th 0, 0, none⟩)) := h.base.sys.m.cell 0
  obtain ⟨ls, exe, per, cs, lsC, hdc, hnt⟩ := h.base.dev
  obtain ⟨f0, f2, _, _, f4⟩ := hdc.facts (j := 0) (by omega)
  clear hdc hnt h
  by_cases h8 : o % 8 = 0
  · have e1 : ((o : Int) % 8 == 0) = true := by rw [beq_iff_eq]; omega
    have e1' : (o : Int) % 8 = 0 := by omega
    have e2 : decide ((o : Int) < 9728) = false := decide_eq_false (by omega)
    have e3 : decide (o < 9728) = false := decide_eq_false (by omega)
    go_enter Tryz.func51, Tryz.ntmps51
    go_wp2
    go_ret
    exact ⟨rfl, rfl⟩
  · have e1 : ((o : Int) % 8 == 0) = false := by
      rw [beq_eq_false_iff_ne]; omega
    go_enter Tryz.func51, Tryz.ntmps51
    go_wp2
    go_ret
    exact ⟨rfl, rfl⟩
set_option maxRecDepth 100000 in
set_option maxHeartbeats 1000000 in
theorem store_out {c : CX} {g : Nat} {w : World} {S : Fp} {t : TX} {D : DataW Unit} {n : Nat} {cur : Nat → Nat} {T : Nat} (h : TxS c g w S t D n cur T) (hop : t.open_ = true) (o v : Nat) (hbad : o % 8 ≠ 0 ∨ 64 * 152 ≤ o) :
    Calls Tryz.prog 13 #[.pointer (some ⟨g, 0, none⟩), .int .u64 (o : Int), .int .u64 (v : Int)] w fun e w' => e = .returned (.tuple #[]) ∧ TxS c g w' S { t with outside := true } D n cur T := by
  have HWd := Lib.hid (word_out h o hbad)
  have c8 : w.cell? ⟨g, 8, none⟩ = some (.bool true) := (h.tx.cell 8).trans (by simp [txCells, hop])
  have c4 : w.cell? ⟨g, 4, none⟩ = some (.bool t.outside) := h.tx.cell 4
  have z4 : w.frozen? ⟨g, 4, none⟩ = false := h.tx.frozen 4
  have HX := Lib.hid (h.set 4 (.bool true) { t with outside := true } rfl ⟨rfl, rfl, rfl, rfl, rfl, rfl⟩)
  clear h hop
  go_enter Tryz.func13, Tryz.ntmps13
  go_wp2_with (first
    | (go_at_call 51; refine HWd.out.mono ?_; rintro e w1 ⟨rfl, rfl⟩)
    | go_in)
  refine bodyPost_ret (results_none rfl _ _ _) rfl ?_
  exact ⟨rfl, HX.out⟩
end Go.Proofs.YtklpeghhgoeeiaaGreatDoor
/- tx: revert, Abort in both modes without own blocks; Commit of a transaction with an error. -/
namespace Go.Proofs.YtklpeghhgoeeiaaGreatDoor
open Go.RowKit Go.Maps Go.Sort Go.Shelf
set_option maxRecDepth 100000 in
set_option maxHeartbeats 1000000 in
theorem revert_any {c : CX} {g : Nat} {w : World} {S : Fp} {t : TX} {D : DataW Unit} {n : Nat} {cur : Nat → Nat} {T : Nat} (h : TxS c g w S t D n cur T) {ws : List (Nat × Nat)} (hl : LogU cur 30 ws) (hw : EntO ws) (hT : T ≤ 1000000) :
    Calls Tryz.prog 82 #[.pointer (some ⟨g, 0, none⟩)] w (RetSt c g w S t D n (rbC cur ws) (T + 40) (.int .i64 0)) := by
  have c6 : w.cell? ⟨g, 6, none⟩ = some (.pointer (some ⟨c.x.m, 0, none⟩)) := h.tx.cell 6
  have m0 : w.cell? ⟨c.x.m, 0, none⟩ = some (.pointer (some ⟨c.a.th 0, 0, none⟩)) := h.base.sys.m.cell 0
  have m2 : w.cell? ⟨c.x.m, 2, none⟩ = some (.pointer (some ⟨c.x.u, 0, none⟩)) := h.base.sys.m.cell 2
  have HE := Lib.hid (err_dev h.base.dev (j := 0) (by omega))
  have HR := Lib.hid (rollbackU_all h.base.dev c.x.u h.base.sys.u ws hl hw (by omega))
  have HX := Lib.hid h
  clear h hl hw
  go_enter Tryz.func82, Tryz.ntmps82
  go_wp2_with fail
  refine HE.out.mono ?_
  rintro e w1 ⟨rfl, rfl⟩
  go_wp2_with fail
  refine HR.out.mono ?_
  intro e W1 h1
  obtain ⟨rfl, S1, hx1, hc1, hg1⟩ := HX.out.step h1
  have HX1 := Lib.hid hx1
  have HI := Lib.hid (show StI c g w W1 S t D n (rbC cur ws) (T + 40) from ⟨S1, hx1, hc1, hg1⟩)
  have k1 : W1.cell? ⟨g, 1, none⟩ = some (.map (some t.inner)) := hx1.tx.cell 1
  have HSo := Lib.hid (sortU0 W1 t.inner hx1.maps.inner)
  clear h1 hx1 hc1 hg1 c6 m0 m2 HE HR
  go_wp2_with fail
  refine (keysU_any _ _).mono ?_
  rintro e w1 ⟨rfl, rfl⟩
  go_wp2_with fail
  refine HSo.out.mono ?_
  rintro e W5 ⟨⟨A5, c5, rfl⟩, hb5⟩
  have hb : Below W1.heap.size W1 W5 := ((Below.refl _ W1).alloc (Nat.le_refl _) _).trans (hb5.mono (by simp))
  have HI5 := Lib.hid (HI.out.below hb)
  clear hb hb5 HSo HI HX1 k1
  go_wp2_with fail
  refine wp_loop_rounds 1 ?_
  rw [rounds_succ]
  go_wp2
  go_ret
  exact ⟨rfl, HI5.out⟩
set_option maxRecDepth 100000 in
set_option maxHeartbeats 1000000 in
theorem abort_undo {c : CX} {g : Nat} {w : World} {S : Fp} {t : TX} {D : DataW Unit} {n : Nat} {cur : Nat → Nat} {T : Nat} (h : TxS c g w S t D n cur T) (hop : t.open_ = true) (hmode : t.mode = 2) {ws : List (Nat × Nat)} (hl : LogU cur 30 ws) (hw : EntO ws) (hT : T ≤ 1000000) :
    Calls Tryz.prog 31 #[.pointer (some ⟨g, 0, none⟩)] w (RetCmt c g t (rbC cur ws) (T + 40) (.int .i64 0)) := by
  have c8 : w.cell? ⟨g, 8, none⟩ = some (.bool true) := (h.tx.cell 8).trans (by simp [txCells, hop])
  have c7 : w.cell? ⟨g, 7, none⟩ = some (.int .u8 2) := (h.tx.cell 7).trans (by simp [txCells, hmode])
  have HR := Lib.hid (revert_any h hl hw hT)
  clear h hl hw hop hmode
  go_enter Tryz.func31, Tryz.ntmps31
  go_wp2_with (first
    | (go_at_call 82; refine stop ?_)
    | go_in)
  unfold Stop
  refine HR.out.mono ?_
  rintro e W1 ⟨rfl, S1, hx1, _, _⟩
  have HEn := Lib.hid (end_any hx1)
  clear hx1 HR c8 c7
  go_wp2_with fail
  refine HEn.out.mono ?_
  rintro e W2 ⟨rfl, hx2⟩
  have HX2 := Lib.hid hx2
  have k6 : W2.cell? ⟨g, 6, none⟩ = some (.pointer (some ⟨c.x.m, 0, none⟩)) := hx2.tx.cell 6
  have m0 : W2.cell? ⟨c.x.m, 0, none⟩ = some (.pointer (some ⟨c.a.th 0, 0, none⟩)) := hx2.base.sys.m.cell 0
  have HE := Lib.hid (err_dev hx2.base.dev (j := 0) (by omega))
  clear hx2 HEn
  go_wp2_with fail
  refine HE.out.mono ?_
  rintro e w1 ⟨rfl, rfl⟩
  go_wp2
  go_ret
  exact ⟨S1, rfl, HX2.out⟩
set_option maxRecDepth 100000 in
set_option maxHeartbeats 1000000 in
theorem abort_redo {c : CX} {g : Nat} {w : World} {S : Fp} {t : TX} {D : DataW Unit} {n : Nat} {cur : Nat → Nat} {T : Nat} (h : TxS c g w S t D n cur T) (hop : t.open_ = true) (hmode : t.mode = 1) :
    Calls Tryz.prog 31 #[.pointer (some ⟨g, 0, none⟩)] w (RetCmt c g t cur T (.int .i64 0)) := by
  have c8 : w.cell? ⟨g, 8, none⟩ = some (.bool true) := (h.tx.cell 8).trans (by simp [txCells, hop])
  have c7 : w.cell? ⟨g, 7, none⟩ = some (.int .u8 1) := (h.tx.cell 7).trans (by simp [txCells, hmode])
  have HEn := Lib.hid (end_any h)
  clear h hop hmode
  go_enter Tryz.func31, Tryz.ntmps31
  go_wp2_with (first
    | (go_at_call 70; refine stop ?_)
    | go_in)
  unfold Stop
  refine HEn.out.mono ?_
  rintro e W2 ⟨rfl, hx2⟩
  have HX2 := Lib.hid hx2
  have k6 : W2.cell? ⟨g, 6, none⟩ = some (.pointer (some ⟨c.x.m, 0, none⟩)) := hx2.tx.cell 6
  have m0 : W2.cell? ⟨c.x.m, 0, none⟩ = some (.pointer (some ⟨c.a.th 0, 0, none⟩)) := hx2.base.sys.m.cell 0
  have HE := Lib.hid (err_dev hx2.base.dev (j := 0) (by omega))
  clear hx2 HEn
  go_wp2_with fail
  refine HE.out.mono ?_
  rintro e w1 ⟨rfl, rfl⟩
  go_wp2
  go_ret
  exact ⟨S, rfl, HX2.out⟩
set_option maxRecDepth 100000 in
set_option maxHeartbeats 1000000 in
theorem commit_fail {c : CX} {g : Nat} {w : World} {S : Fp} {t : TX} {D : DataW Unit} {n : Nat} {cur cur' : Nat → Nat} {T T' : Nat} (h : TxS c g w S t D n cur T) (hop : t.open_ = true) (hout : t.outside = true) (hab : Calls Tryz.prog 31 #[.pointer (some ⟨g, 0, none⟩)] w (RetCmt c g t cur' T' (.int .i64 0))) :
    Calls Tryz.prog 17 #[.pointer (some ⟨g, 0, none⟩)] w (RetCmt c g t cur' T' (.int .i64 2)) := by
  have c8 : w.cell? ⟨g, 8, none⟩ = some (.bool true) := (h.tx.cell 8).trans (by simp [txCells, hop])
  have HE := Lib.hid (xErr_any h)
  rw [show errT t = 2 by simp [errT, hout]] at HE
  have HA := Lib.hid hab
  clear h hop hab hout
  go_enter Tryz.func17, Tryz.ntmps17
  go_wp2_with (first
    | (go_at_call 22; refine HE.out.mono ?_; rintro e w1 ⟨rfl, rfl⟩)
    | (go_at_call 31; refine stop ?_)
    | go_in)
  unfold Stop
  refine HA.out.mono ?_
  rintro e W1 ⟨S1, rfl, hx1⟩
  have HX1 := Lib.hid hx1
  clear hx1 HA HE
  go_wp2
  go_ret
  exact ⟨S1, rfl, HX1.out⟩
end Go.Proofs.YtklpeghhgoeeiaaGreatDoor
/- tx: the calls of a transaction that has ended. -/
namespace Go.Proofs.YtklpeghhgoeeiaaGreatDoor
open Go.RowKit Go.Maps Go.Sort Go.Shelf
section
variable {c : CX} {g : Nat} {w : World} {S : Fp} {t : TX} {cur : Nat → Nat} {T : Nat}
theorem TxE.shut (h : TxE c g w S t cur T) : w.cell? ⟨g, 8, none⟩ = some (.bool false) := h.tx.cell 8
set_option maxRecDepth 100000 in
set_option maxHeartbeats 1000000 in
theorem done_store (h : TxE c g w S t cur T) (o v : Int) : Calls Tryz.prog 13 #[.pointer (some ⟨g, 0, none⟩), .int .u64 o, .int .u64 v] w fun e w' => e = .returned (.tuple #[]) ∧ w = w' := by
  have c8 := h.shut
  clear h
  go_enter Tryz.func13, Tryz.ntmps13
  go_wp2
  refine bodyPost_ret (results_none rfl _ _ _) rfl ?_
  exact ⟨rfl, rfl⟩
set_option maxRecDepth 100000 in
set_option maxHeartbeats 1000000 in
theorem done_load (h : TxE c g w S t cur T) (o : Nat) (h8 : o % 8 = 0) (hlt : o < 64 * 152) : Calls Tryz.prog 15 #[.pointer (some ⟨g, 0, none⟩), .int .u64 (o : Int)] w fun e w' => e = .returned (.int .u64 (cur (o / 8) : Int)) ∧ w = w' := by
  have c8 := h.shut
  have c6 : w.cell? ⟨g, 6, none⟩ = some (.pointer (some ⟨c.x.m, 0, none⟩)) := h.tx.cell 6
  have m0 : w.cell? ⟨c.x.m, 0, none⟩ = some (.pointer (some ⟨c.a.th 0, 0, none⟩)) := h.base.sys.m.cell 0
  have HL := Lib.hid (load_dev h.base.dev (j := 0) (by omega) o h8 hlt)
  clear h h8 hlt
  generalize cur (o / 8) = v at *
  go_enter Tryz.func15, Tryz.ntmps15
  go_wp2_with fail
  refine HL.out.mono ?_
  rintro e w1 ⟨rfl, rfl⟩
  go_wp2
  go_ret
  exact ⟨rfl, rfl⟩
set_option maxRecDepth 100000 in
set_option maxHeartbeats 1000000 in
theorem done_alloc (h : TxE c g w S t cur T) (n k : Int) : Calls Tryz.prog 30 #[.pointer (some ⟨g, 0, none⟩), .int .i64 n, .int .u8 k] w fun e w' => e = .returned (.tuple #[.int .u64 0, .int .i64 8]) ∧ w = w' := by
  have c8 := h.shut
  clear h
  go_enter Tryz.func30, Tryz.ntmps30
  go_wp2
  go_ret2
  exact ⟨rfl, rfl⟩
set_option maxRecDepth 100000 in
set_option maxHeartbeats 1000000 in
theorem done_publish (h : TxE c g w S t cur T) (x y z : Value) : Calls Tryz.prog 25 #[.pointer (some ⟨g, 0, none⟩), x, y, z] w fun e w' => e = .returned (.int .i64 8) ∧ w = w' := by
  have c8 := h.shut
  clear h
  go_enter Tryz.func25, Tryz.ntmps25
  go_wp2
  go_ret
  exact ⟨rfl, rfl⟩
set_option maxRecDepth 100000 in
set_option maxHeartbeats 1000000 in
theorem done_save (h : TxE c g w S t cur T) : Calls Tryz.prog 14 #[.pointer (some ⟨g, 0, none⟩)] w fun e w' => e = .returned (.int .i64 0) ∧ w = w' := by
  have c8 := h.shut
  clear h
  go_enter Tryz.func14, Tryz.ntmps14
  go_wp2
  go_ret
  exact ⟨rfl, rfl⟩
set_option maxRecDepth 100000 in
set_option maxHeartbeats 1000000 in
theorem done_commit (h : TxE c g w S t cur T) : Calls Tryz.prog 17 #[.pointer (some ⟨g, 0, none⟩)] w fun e w' => e = .returned (.int .i64 8) ∧ w = w' := by
  have c8 := h.shut
  clear h
  go_enter Tryz.func17, Tryz.ntmps17
  go_wp2
  go_ret
  exact ⟨rfl, rfl⟩
set_option maxRecDepth 100000 in
set_option maxHeartbeats 1000000 in
theorem done_abort (h : TxE c g w S t cur T) : Calls Tryz.prog 31 #[.pointer (some ⟨g, 0, none⟩)] w fun e w' => e = .returned (.int .i64 8) ∧ w = w' := by
  have c8 := h.shut
  clear h
  go_enter Tryz.func31, Tryz.ntmps31
  go_wp2
  go_ret
  exact ⟨rfl, rfl⟩
set_option maxRecDepth 100000 in
set_option maxHeartbeats 1000000 in
theorem done_open (h : TxE c g w S t cur T) : Calls Tryz.prog 26 #[.pointer (some ⟨g, 0, none⟩)] w fun e w' => e = .returned (.bool false) ∧ w = w' := by
  have c8 := h.shut
  clear h
  go_enter Tryz.func26, Tryz.ntmps26
  go_wp2
  go_ret
  exact ⟨rfl, rfl⟩
set_option maxRecDepth 100000 in
set_option maxHeartbeats 1000000 in
theorem done_active (h : TxE c g w S t cur T) : Calls Tryz.prog 29 #[.pointer (some ⟨c.x.m, 0, none⟩)] w fun e w' => e = .returned (.bool false) ∧ w = w' := by
  have m4 : w.cell? ⟨c.x.m, 4, none⟩ = some (.pointer (some ⟨g, 0, none⟩)) := h.base.sys.m.cell 4
  have c8 := h.shut
  clear h
  go_enter Tryz.func29, Tryz.ntmps29
  go_wp2
  go_ret
  exact ⟨rfl, rfl⟩
set_option maxRecDepth 100000 in
set_option maxHeartbeats 1000000 in
theorem done_free (h : TxE c g w S t cur T) (p : Int) : Calls Tryz.prog 34 #[.pointer (some ⟨g, 0, none⟩), .int .u64 p] w fun e w' => e = .returned (.int .i64 8) ∧ Below w.heap.size w w' := by
  have HB := Lib.hid ((Below.refl _ w).alloc (Nat.le_refl _) (.cells #[.int .u64 p] 64))
  have HP := Lib.hid (done_publish (h.more_ HB.out) (.slice none 0 0) (.slice none 0 0) (.slice (some ⟨w.heap.size, 0, none⟩) 1 1))
  clear h
  go_enter Tryz.func34, Tryz.ntmps34
  go_wp2_with fail
  refine HP.out.mono ?_
  rintro e w1 ⟨rfl, rfl⟩
  go_wp2
  go_ret
  exact ⟨rfl, HB.out⟩
set_option maxRecDepth 100000 in
set_option maxHeartbeats 1000000 in
theorem done_rollback (h : TxE c g w S t cur T) (k : Int) : Calls Tryz.prog 16 #[.pointer (some ⟨g, 0, none⟩), .int .i64 k] w fun e w' => e = .returned (.int .i64 8) ∧ Below w.heap.size w w' := by
  have HB := Lib.hid ((Below.refl _ w).alloc (Nat.le_refl _) (.cells #[.int .i64 k] 3))
  have c8 := (h.more_ HB.out).shut
  clear h
  go_enter Tryz.func16, Tryz.ntmps16
  go_wp2
  go_ret
  exact ⟨rfl, HB.out⟩
end
end Go.Proofs.YtklpeghhgoeeiaaGreatDoor
/- tx: an open transaction that holds at most one word, in either mode: its store outside, its end without effect. -/
namespace Go.Proofs.YtklpeghhgoeeiaaGreatDoor
open Go.RowKit Go.Maps Go.Sort Go.Shelf
/-- An open transaction; the memory's words as they were at its beginning can be had back. -/
def Held (c : CX) (g mode : Nat) (base : Nat → Nat) (o : Bool) (w : World) : Prop :=
  ∃ S t D n cur T ws, TxS c g w S t D n cur T ∧ t.open_ = true ∧ t.mode = mode ∧ t.outside = o ∧ T ≤ 1000000 ∧ LogU cur 30 ws ∧ EntO ws ∧ (∀ i, outLog i → rbC cur ws i = base i) ∧ (mode = 1 → cur = base)
def RetOver (c : CX) (g : Nat) (base : Nat → Nat) (v : Value) (e : Ending) (w' : World) : Prop := e = .returned v ∧ ∃ S t cur T, TxE c g w' S t cur T ∧ ∀ i, outLog i → cur i = base i
theorem off8 : OffOk 152 30 26 8 := ⟨by omega, by omega, by omega⟩
theorem held_first {c : CX} {g : Nat} {w : World} {S : Fp} {t : TX} {T mode : Nat} {base : Nat → Nat} (h : TxS c g w S t (.map []) 0 base T) (hf : Fresh t mode) (hmo : mode = 1 ∨ mode = 2) (h0 : base 240 = 0) (hb : ∀ i, base i < 18446744073709551616) (hT : T ≤ 1000) (v : Nat) (hv : v < 18446744073709551616) :
    Calls Tryz.prog 13 #[.pointer (some ⟨g, 0, none⟩), .int .u64 8, .int .u64 (v : Int)] w fun e w' => e = .returned (.tuple #[]) ∧ Held c g mode base false w' := by
  have hU := UInv.start h0 hb
  rcases hmo with rfl | rfl
  · refine (store_redo_new h hf.open_ hf.mode 8 v (by omega) (by omega) (by simp [has]) (by simp [Maps.size]) (by omega)).mono ?_
    rintro e w' ⟨rfl, hx, _⟩
    exact ⟨rfl, S, t, _, _, base, T, [], hx, hf.open_, hf.mode, hf.outside, by omega, hU.log, hU.ent (by simp), fun i hi => hU.back hi, fun _ => rfl⟩
  · refine (store_new h hf.open_ hf.mode hf.tail 8 v off8 (by simp [has]) (by simp [Maps.size]) (by omega) hU.log hU.bnd (by omega)).mono ?_
    rintro e w' ⟨tl, S3, rfl, hx⟩
    have hU1 := hU.put_new off8 (by simp [has]) hv (by simp)
    exact ⟨rfl, S3, _, _, _, _, _, _, hx, hf.open_, hf.mode, hf.outside, by omega, hU1.log, hU1.ent (by simp), fun i hi => hU1.back hi, fun h => absurd h (by omega)⟩
theorem held_out {c : CX} {g mode : Nat} {w : World} {base : Nat → Nat} {b : Bool} (h : Held c g mode base b w) (o v : Nat) (hbad : o % 8 ≠ 0 ∨ 64 * 152 ≤ o) :
    Calls Tryz.prog 13 #[.pointer (some ⟨g, 0, none⟩), .int .u64 (o : Int), .int .u64 (v : Int)] w fun e w' => e = .returned (.tuple #[]) ∧ Held c g mode base true w' := by
  obtain ⟨S, t, D, n, cur, T, ws, hx, hop, hm, ho, hT, hl, he, hb, h1⟩ := h
  refine (store_out hx hop o v hbad).mono ?_
  rintro e w' ⟨rfl, hx'⟩
  exact ⟨rfl, S, _, D, n, cur, T, ws, hx', hop, hm, rfl, hT, hl, he, hb, h1⟩
theorem held_err {c : CX} {g mode : Nat} {w : World} {base : Nat → Nat} (h : Held c g mode base true w) :
    Calls Tryz.prog 22 #[.pointer (some ⟨g, 0, none⟩)] w fun e w' => e = .returned (.int .i64 2) ∧ w = w' := by
  obtain ⟨S, t, D, n, cur, T, ws, hx, hop, hm, ho, hT, hl, he, hb, h1⟩ := h
  have hr := xErr_any hx
  rw [show errT t = 2 by simp [errT, ho]] at hr
  exact hr
theorem held_abort {c : CX} {g mode : Nat} {w : World} {base : Nat → Nat} {b : Bool} (h : Held c g mode base b w) (hmo : mode = 1 ∨ mode = 2) :
    Calls Tryz.prog 31 #[.pointer (some ⟨g, 0, none⟩)] w (RetOver c g base (.int .i64 0)) := by
  obtain ⟨S, t, D, n, cur, T, ws, hx, hop, hm, ho, hT, hl, he, hb, h1⟩ := h
  rcases hmo with rfl | rfl
  · refine (abort_redo hx hop hm).mono ?_
    rintro e w' ⟨S', rfl, hx'⟩
    exact ⟨rfl, S', t, cur, T, hx', fun i _ => by rw [h1 rfl]⟩
  · refine (abort_undo hx hop hm hl he hT).mono ?_
    rintro e w' ⟨S', rfl, hx'⟩
    exact ⟨rfl, S', t, _, _, hx', hb⟩
theorem held_commit {c : CX} {g mode : Nat} {w : World} {base : Nat → Nat} (h : Held c g mode base true w) (hmo : mode = 1 ∨ mode = 2) :
    Calls Tryz.prog 17 #[.pointer (some ⟨g, 0, none⟩)] w (RetOver c g base (.int .i64 2)) := by
  obtain ⟨S, t, D, n, cur, T, ws, hx, hop, hm, ho, hT, hl, he, hb, h1⟩ := h
  rcases hmo with rfl | rfl
  · refine (commit_fail hx hop ho (abort_redo hx hop hm)).mono ?_
    rintro e w' ⟨S', rfl, hx'⟩
    exact ⟨rfl, S', t, cur, T, hx', fun i _ => by rw [h1 rfl]⟩
  · refine (commit_fail hx hop ho (abort_undo hx hop hm hl he hT)).mono ?_
    rintro e w' ⟨S', rfl, hx'⟩
    exact ⟨rfl, S', t, _, _, hx', hb⟩
end Go.Proofs.YtklpeghhgoeeiaaGreatDoor
