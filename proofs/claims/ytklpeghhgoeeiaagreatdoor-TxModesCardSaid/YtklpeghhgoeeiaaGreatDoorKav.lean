/- The walks and laws that the claim leans on, part 22: each part says ahead of its lines what it holds. -/
import Derived.Test.YtklpeghhgoeeiaaGreatDoorKau
/- tx: Err; Commit in mode Undo, without own blocks. -/
namespace Go.Proofs.YtklpeghhgoeeiaaGreatDoor
open Go.RowKit Go.Maps Go.Sort Go.Shelf
/-- The error of a transaction over a memory without error. -/
def errT (t : TX) : Int := if t.outside then 2 else if t.surplus then 9 else 0
set_option maxRecDepth 100000 in
set_option maxHeartbeats 1000000 in
theorem xErr_any {c : CX} {g : Nat} {w : World} {S : Fp} {t : TX} {D : DataW Unit} {n : Nat} {cur : Nat → Nat} {T : Nat} (h : TxS c g w S t D n cur T) :
    Calls Tryz.prog 22 #[.pointer (some ⟨g, 0, none⟩)] w fun e w' => e = .returned (.int .i64 (errT t)) ∧ w = w' := by
  have c6 : w.cell? ⟨g, 6, none⟩ = some (.pointer (some ⟨c.x.m, 0, none⟩)) := h.tx.cell 6
  have m0 : w.cell? ⟨c.x.m, 0, none⟩ = some (.pointer (some ⟨c.a.th 0, 0, none⟩)) := h.base.sys.m.cell 0
  have c4 : w.cell? ⟨g, 4, none⟩ = some (.bool t.outside) := h.tx.cell 4
  have c5 : w.cell? ⟨g, 5, none⟩ = some (.bool t.surplus) := h.tx.cell 5
  have HE := Lib.hid (err_dev h.base.dev (j := 0) (by omega))
  clear h
  unfold errT
  generalize t.outside = bo at *
  generalize t.surplus = bs at *
  go_enter Tryz.func22, Tryz.ntmps22
  go_wp2_with fail
  refine HE.out.mono ?_
  rintro e w1 ⟨rfl, rfl⟩
  cases bo
  · cases bs
    · go_wp2
      go_ret
      exact ⟨rfl, rfl⟩
    · go_wp2
      go_ret
      exact ⟨rfl, rfl⟩
  · go_wp2
    go_ret
    exact ⟨rfl, rfl⟩
/-- What the contents' program looks at. -/
def CmS (g m th : Nat) (w' : World) : Prop := w'.cell? ⟨g, 6, none⟩ = some (.pointer (some ⟨m, 0, none⟩)) ∧ w'.cell? ⟨m, 0, none⟩ = some (.pointer (some ⟨th, 0, none⟩))
/-- What the end of a transaction turns, with the device's blocks. -/
def ZC (c : CX) (g : Nat) (S : Fp) : Fp := fun j => S j ∨ ZE c g j
def RetCmtZ (c : CX) (g : Nat) (w : World) (S : Fp) (t : TX) (cur : Nat → Nat) (T : Nat) (v : Value) (e : Ending) (w' : World) : Prop := ∃ S', e = .returned v ∧ TxE c g w' S' t cur T ∧ Chg (ZC c g S) w w' ∧ Grew S S' w
def RetCmt (c : CX) (g : Nat) (t : TX) (cur : Nat → Nat) (T : Nat) (v : Value) (e : Ending) (w' : World) : Prop := ∃ S', e = .returned v ∧ TxE c g w' S' t cur T
set_option maxRecDepth 100000 in
set_option maxHeartbeats 2000000 in
theorem commit_z {c : CX} {g : Nat} {w : World} {S : Fp} {t : TX} {D : DataW Unit} {n : Nat} {cur : Nat → Nat} {T T' : Nat} (P : (Nat → Nat) → Prop) (h : TxS c g w S t D n cur T) (hop : t.open_ = true) (hout : t.outside = false) (hsur : t.surplus = false) (hsz : Maps.size D ≤ 96) (hT : T ≤ 1000000)
    (hAp : ∀ S5 W5, TxS c g W5 S5 t D n cur T → Calls Tryz.prog 67 #[.pointer (some ⟨g, 0, none⟩), .slice none 0 0] W5 (fun e w' => ∃ cur', P cur' ∧ RetSt c g W5 S5 t D n cur' T' (.int .i64 0) e w')) :
    Calls Tryz.prog 17 #[.pointer (some ⟨g, 0, none⟩)] w (fun e w' => ∃ cur', P cur' ∧ RetCmtZ c g w S t cur' T' (.int .i64 0) e w') := by
  have c8 : w.cell? ⟨g, 8, none⟩ = some (.bool true) := (h.tx.cell 8).trans (by simp [txCells, hop])
  have HE := Lib.hid (xErr_any h)
  have he0 : errT t = 0 := by simp [errT, hout, hsur]
  rw [he0] at HE
  have d0 : w.cell? ⟨g, 0, none⟩ = some (.map (some t.words)) := h.tx.cell 0
  have d1 : w.cell? ⟨g, 1, none⟩ = some (.map (some t.inner)) := h.tx.cell 1
  have d2 : w.cell? ⟨g, 2, none⟩ = some (.map (some t.own)) := h.tx.cell 2
  have d3 : w.cell? ⟨g, 3, none⟩ = some (.map (some t.freed)) := h.tx.cell 3
  have d4 : w.cell? ⟨g, 4, none⟩ = some (.bool false) := (h.tx.cell 4).trans (by simp [txCells, hout])
  have d5 : w.cell? ⟨g, 5, none⟩ = some (.bool false) := (h.tx.cell 5).trans (by simp [txCells, hsur])
  have HBl := Lib.hid (blocks_none w t.words t.inner t.own t.freed false false true h.maps.own)
  have HOu := Lib.hid hout
  have HSu := Lib.hid hsur
  have HX := Lib.hid h
  have HAP := Lib.hid hAp
  clear h he0 hout hsur hop hAp
  unfold stV at HBl
  go_enter Tryz.func17, Tryz.ntmps17
  go_wp2_with (first
    | (go_at_call 22; refine HE.out.mono ?_; rintro e w1 ⟨rfl, rfl⟩)
    | (go_at_call 62; refine stop ?_)
    | go_in)
  unfold Stop
  refine HBl.out.mono ?_
  rintro e W1 ⟨rfl, hb1⟩
  have HX1 := Lib.hid (HX.out.more_ hb1)
  have HB1 := Lib.hid hb1
  have HSo := Lib.hid (sortP0 W1 t.freed HX1.out.maps.freed)
  have k3 : W1.cell? ⟨g, 3, none⟩ = some (.map (some t.freed)) := HX1.out.tx.cell 3
  clear hb1 c8 d0 d1 d2 d3 d4 d5 HBl HE
  go_wp2_with fail
  refine wp_loop_rounds 1 ?_
  rw [rounds_succ]
  go_wp2_with fail
  refine (keysPtr_any _ _).mono ?_
  rintro e w1 ⟨rfl, rfl⟩
  go_wp2_with fail
  refine HSo.out.mono ?_
  rintro e W2 ⟨⟨A2, c2, rfl⟩, hb2⟩
  have HB2 := Lib.hid (HB1.out.trans ((((Below.refl _ W1).alloc (Nat.le_refl _) _).trans (hb2.mono (by simp))).mono HB1.out.size))
  have HX2 := Lib.hid (HX.out.more_ HB2.out)
  have HAc := Lib.hid (actions_none HX2.out.base)
  have k6 : W2.cell? ⟨g, 6, none⟩ = some (.pointer (some ⟨c.x.m, 0, none⟩)) := HX2.out.tx.cell 6
  have m3 : W2.cell? ⟨c.x.m, 3, none⟩ = some (.pointer (some ⟨c.x.h, 0, none⟩)) := HX2.out.base.sys.m.cell 3
  clear hb2 k3 HSo HX1 HB1
  go_wp2_with fail
  refine wp_loop_rounds 1 ?_
  rw [rounds_succ]
  go_wp2_with fail
  refine HAc.out.mono ?_
  rintro e W3 ⟨rfl, hb3⟩
  have HB3 := Lib.hid (HB2.out.trans (hb3.mono HB2.out.size))
  have HX3 := Lib.hid (HX.out.more_ HB3.out)
  have j0 : W3.cell? ⟨g, 0, none⟩ = some (.map (some t.words)) := HX3.out.tx.cell 0
  have hlen : ∀ ty, (Builtin.len_ #[95] ty #[.map (some t.words)]).run Tryz.prog W3 = .ok (.int .i64 (Maps.size D)) W3 := fun ty => HX3.out.maps.words.len Tryz.underlying95 ty
  have e96 : decide ((96 : Int) < (Maps.size D : Int)) = false := decide_eq_false (by omega)
  clear hb3 k6 m3 HAc HX2 HB2
  go_wp2_with fail
  refine wp_loop_rounds 1 ?_
  rw [rounds_succ]
  go_wp2_with fail
  have HS0 : Hid (CmS g c.x.m (c.a.th 0) W3.drew) := Lib.hid (show CmS g c.x.m (c.a.th 0) W3 from ⟨HX3.out.tx.cell 6, HX3.out.base.sys.m.cell 0⟩)
  refine wp_region_script (CmS g c.x.m (c.a.th 0)) 10 [(true, 0), (true, 2), (true, 3), (true, 4), (true, 5), (true, 6), (true, 7), (true, 8), (true, 9), (false, 1)] (by kernel_rfl) (by kernel_rfl) HS0.out ?_
  refine wpScript_take (.slice none 0 0) (by rfl) (by rfl) (fun w' hS => ?_) ?_
  · go_simp
  simp only [List.getElem_toArray, List.getElem_cons_zero, Act.put, List.setIfInBounds_toArray, List.set_cons_zero, List.set_cons_succ]
  refine wpScript_take (.pointer (some ⟨g, 0, none⟩)) (by rfl) (by rfl) (fun w' hS => ?_) ?_
  · go_simp
  simp only [List.getElem_toArray, List.getElem_cons_zero, List.getElem_cons_succ, Act.put, List.setIfInBounds_toArray, List.set_cons_zero, List.set_cons_succ]
  refine wpScript_take (.pointer (some ⟨g, 0, none⟩)) (by rfl) (by rfl) (fun w' hS => ?_) ?_
  · go_simp
  simp only [List.getElem_toArray, List.getElem_cons_zero, List.getElem_cons_succ, Act.put, List.setIfInBounds_toArray, List.set_cons_zero, List.set_cons_succ]
  refine wpScript_take (.pointer (some ⟨g, 6, none⟩)) (by rfl) (by rfl) (fun w' hS => ?_) ?_
  · go_simp
  simp only [List.getElem_toArray, List.getElem_cons_zero, List.getElem_cons_succ, Act.put, List.setIfInBounds_toArray, List.set_cons_zero, List.set_cons_succ]
  refine wpScript_take (.pointer (some ⟨c.x.m, 0, none⟩)) (by rfl) (by rfl) (fun w' hS => ?_) ?_
  · have f1 := hS.1
    go_simp
  simp only [List.getElem_toArray, List.getElem_cons_zero, List.getElem_cons_succ, Act.put, List.setIfInBounds_toArray, List.set_cons_zero, List.set_cons_succ]
  refine wpScript_take (.pointer (some ⟨c.x.m, 0, none⟩)) (by rfl) (by rfl) (fun w' hS => ?_) ?_
  · go_simp
  simp only [List.getElem_toArray, List.getElem_cons_zero, List.getElem_cons_succ, Act.put, List.setIfInBounds_toArray, List.set_cons_zero, List.set_cons_succ]
  refine wpScript_take (.pointer (some ⟨c.x.m, 0, none⟩)) (by rfl) (by rfl) (fun w' hS => ?_) ?_
  · go_simp
  simp only [List.getElem_toArray, List.getElem_cons_zero, List.getElem_cons_succ, Act.put, List.setIfInBounds_toArray, List.set_cons_zero, List.set_cons_succ]
  refine wpScript_take (.pointer (some ⟨c.a.th 0, 0, none⟩)) (by rfl) (by rfl) (fun w' hS => ?_) ?_
  · have f1 := hS.2
    go_simp
  simp only [List.getElem_toArray, List.getElem_cons_zero, List.getElem_cons_succ, Act.put, List.setIfInBounds_toArray, List.set_cons_zero, List.set_cons_succ]
  refine wpScript_take (memV c.a) (by rfl) (by rfl) (fun w' hS => ?_) ?_
  · unfold memV
    go_simp
  simp only [List.getElem_toArray, List.getElem_cons_zero, List.getElem_cons_succ, Act.put, List.setIfInBounds_toArray, List.set_cons_zero, List.set_cons_succ]
  have HSt := Lib.hid (stores_none none 0 W3.drew)
  refine wpScript_do (by rfl) ?_
  go_wp2_with fail
  refine HSt.out.mono ?_
  rintro e W4 ⟨A4, m4, c4, rfl, rfl, ho4, hb4⟩
  have hb34 : Below W3.heap.size W3 W4 := (Below.refl _ W3).drew.trans hb4
  have HB4 := Lib.hid (HB3.out.trans (hb34.mono HB3.out.size))
  have HX4 := Lib.hid (HX.out.more_ HB4.out)
  have HRn := Lib.hid (run_nil HX4.out.base.dev A4 c4 _ ho4 HX3.out.base.dev.lt (by omega))
  clear ho4 hb4 hb34 HSt HS0 HX3 HB3 j0 hlen
  go_wp2_with fail
  refine ⟨⟨HX4.out.tx.cell 6, HX4.out.base.sys.m.cell 0⟩, ?_⟩
  show wpList _ _ _ _ _ _
  simp only [List.drop_succ_cons, List.drop_zero]
  go_wp2_with fail
  refine HRn.out.mono ?_
  intro e W5 h5
  obtain ⟨rfl, hi5⟩ := StI.step HX4.out (Chg.of_below (S := S) HB4.out) (Grew.refl _ _) h5
  have HI5 := Lib.hid hi5
  obtain ⟨S5, hx5, hc5, hg5⟩ := hi5
  have HX5 := Lib.hid hx5
  have HZ5 : Hid (Chg (ZC c g S) w W5) := Lib.hid (hc5.mono (fun _ h => .inl h))
  have HC5 := Lib.hid hc5
  have HG5 := Lib.hid hg5
  have HAp := Lib.hid (HAP.out _ _ hx5)
  clear h5 hx5 hc5 hg5 HRn HX4 HB4
  go_wp2
  refine NoPanic.normal ?_
  go_wp2_with fail
  refine HAp.out.mono ?_
  rintro e W6 ⟨cur', hP, rfl, S6, hx6, hc6, hg6⟩
  have HP := Lib.hid hP
  clear hP
  have HX6 := Lib.hid hx6
  have n0 : W6.cell? ⟨g, 0, none⟩ = some (.map (some t.words)) := hx6.tx.cell 0
  have n1 : W6.cell? ⟨g, 1, none⟩ = some (.map (some t.inner)) := hx6.tx.cell 1
  have n2 : W6.cell? ⟨g, 2, none⟩ = some (.map (some t.own)) := hx6.tx.cell 2
  have n3 : W6.cell? ⟨g, 3, none⟩ = some (.map (some t.freed)) := hx6.tx.cell 3
  have n4 : W6.cell? ⟨g, 4, none⟩ = some (.bool false) := (hx6.tx.cell 4).trans (by simp [txCells, HOu.out])
  have n5 : W6.cell? ⟨g, 5, none⟩ = some (.bool false) := (hx6.tx.cell 5).trans (by simp [txCells, HSu.out])
  have HBl := Lib.hid (blocks_none W6 t.words t.inner t.own t.freed false false false hx6.maps.own)
  have HZ6 : Hid (Chg (ZC c g S) w W6) := Lib.hid (HZ5.out.trans (hc6.mono (T := ZC c g _) (fun _ h => .inl h)) (fun k hk => hk.elim (fun h => (HG5.out k h).elim (fun h => .inl (.inl h)) .inr) (fun h => .inl (.inr h))))
  have HG6 := Lib.hid (HG5.out.trans hg6 HC5.out.size)
  clear hx6 hc6 hg6 HAp HX5 HC5 HG5 HI5
  unfold stV at HBl
  go_wp2_with fail
  refine HBl.out.mono ?_
  rintro e W7 ⟨rfl, hb7⟩
  have HX7 := Lib.hid (HX6.out.more_ hb7)
  have HZ7 := Lib.hid (HZ6.out.below hb7)
  have p6 : W7.cell? ⟨g, 6, none⟩ = some (.pointer (some ⟨c.x.m, 0, none⟩)) := HX7.out.tx.cell 6
  have p3 : W7.cell? ⟨c.x.m, 3, none⟩ = some (.pointer (some ⟨c.x.h, 0, none⟩)) := HX7.out.base.sys.m.cell 3
  have HEn := Lib.hid (end_z HX7.out)
  clear hb7 HX6 n0 n1 n2 n3 n4 n5 HBl
  go_wp2_with fail
  refine wp_loop_rounds 1 ?_
  rw [rounds_succ]
  go_wp2_with (first
    | (go_at_call 69; refine (settle_none _ _).mono ?_; rintro e w1 ⟨rfl, rfl⟩)
    | (go_at_call 70; refine stop ?_))
  unfold Stop
  refine HEn.out.mono ?_
  rintro e W8 ⟨rfl, hx8, hz8⟩
  have HX8 := Lib.hid hx8
  have HZ8 := Lib.hid (HZ7.out.trans (hz8.mono (T := ZC c g S) (fun _ h => .inr h)) (Grew.refl _ _))
  clear hx8 hz8
  go_wp2
  go_ret
  exact ⟨cur', HP.out, S6, rfl, HX8.out, HZ8.out, HG6.out⟩
theorem commit_any {c : CX} {g : Nat} {w : World} {S : Fp} {t : TX} {D : DataW Unit} {n : Nat} {cur cur' : Nat → Nat} {T T' : Nat} (h : TxS c g w S t D n cur T) (hop : t.open_ = true) (hout : t.outside = false) (hsur : t.surplus = false) (hsz : Maps.size D ≤ 96) (hT : T ≤ 1000000)
    (hAp : ∀ S5 W5, TxS c g W5 S5 t D n cur T → Calls Tryz.prog 67 #[.pointer (some ⟨g, 0, none⟩), .slice none 0 0] W5 (RetSt c g W5 S5 t D n cur' T' (.int .i64 0))) :
    Calls Tryz.prog 17 #[.pointer (some ⟨g, 0, none⟩)] w (RetCmt c g t cur' T' (.int .i64 0)) :=
  (commit_z (fun x => x = cur') h hop hout hsur hsz hT (fun S5 W5 hx => (hAp S5 W5 hx).mono (fun _ _ hr => ⟨cur', rfl, hr⟩))).mono (fun _ _ ⟨_, e, S', h1, h2, _⟩ => ⟨S', h1, e ▸ h2⟩)
theorem commit_undo {c : CX} {g : Nat} {w : World} {S : Fp} {t : TX} {D : DataW Unit} {n : Nat} {cur : Nat → Nat} {T : Nat} (h : TxS c g w S t D n cur T) (hop : t.open_ = true) (hmode : t.mode = 2) (hout : t.outside = false) (hsur : t.surplus = false) (hpl : AllIn D) (hsz : Maps.size D ≤ 96) {ws : List (Nat × Nat)} (hl : LogU cur 30 ws) (hw : EntO ws) (hT : T ≤ 1000000) (hcv : ∀ i, cur i < 18446744073709551616) :
    Calls Tryz.prog 17 #[.pointer (some ⟨g, 0, none⟩)] w (RetCmt c g t (cmC cur ws) (T + 480) (.int .i64 0)) :=
  commit_any h hop hout hsur hsz hT (fun _ _ hx => apply_undo hx hmode hpl hl hw hT hcv)
end Go.Proofs.YtklpeghhgoeeiaaGreatDoor
/- tx: Store in mode Redo; Store out of the memory, one word too many. -/
namespace Go.Proofs.YtklpeghhgoeeiaaGreatDoor
open Go.RowKit Go.Maps Go.Sort Go.Shelf
set_option maxRecDepth 100000 in
set_option maxHeartbeats 1000000 in
theorem enter_redo {c : CX} {g : Nat} {w : World} {S : Fp} {t : TX} {D : DataW Unit} {n : Nat} {cur : Nat → Nat} {T : Nat} (h : TxS c g w S t D n cur T) (hmode : t.mode = 1) (o : Nat) :
    Calls Tryz.prog 53 #[.pointer (some ⟨g, 0, none⟩), .int .u64 (o : Int)] w fun e w' => e = .returned (cellV 0 0 false) ∧ Below w.heap.size w w' := by
  have c7 : (w.alloc (.cells #[.int .u64 0, .int .u64 0, .bool false] 107)).cell? ⟨g, 7, none⟩ = some (.int .u8 1) := ((h.tx.alloc _).cell 7).trans (by simp [txCells, hmode])
  have HB : Hid (Below w.heap.size w (w.alloc (.cells #[.int .u64 0, .int .u64 0, .bool false] 107))) := Lib.hid ((Below.refl _ w).alloc (Nat.le_refl _) _)
  have hlg : g < w.heap.size := h.tx.lt
  clear h
  go_enter Tryz.func53, Tryz.ntmps53
  go_wp2
  refine bodyPost_ret (v := cellV 0 0 false) (by simp [results, Tryz.results53, go_sem, cellV]) rfl ⟨rfl, HB.out⟩
/-- A block of the caller's own gets a cell, then the value. -/
def put5 (W : World) (b v : Nat) : World := (((W.setCell ⟨b, 0, none⟩ (.int .u64 0)).setCell ⟨b, 1, none⟩ (.int .u64 0)).setCell ⟨b, 2, none⟩ (.bool false)).setCell ⟨b, 0, none⟩ (.int .u64 (v : Int))
theorem TxS.put5 {c : CX} {g : Nat} {W : World} {S : Fp} {t : TX} {D : DataW Unit} {n : Nat} {cur : Nat → Nat} {T N : Nat} (h : TxS c g W S t D n cur T) (hl : TxLt c g t N) {b : Nat} (hb : N ≤ b) (hS : ¬ S b) (v : Nat) : TxS c g (put5 W b v) S t D n cur T :=
  (((h.other hl hb hS 0 _).other hl hb hS 1 _).other hl hb hS 2 _).other hl hb hS 0 _
theorem blk_put5 {W : World} {b : Nat} {tt : TypeId} {v1 x1 : Value} {p1 : Value} (h : Blk W b tt #[v1, x1, p1]) (v : Nat) : Blk (put5 W b v) b tt #[.int .u64 (v : Int), .int .u64 0, .bool false] :=
  (((h.set_ 0 (.int .u64 0)).set_ 1 (.int .u64 0)).set_ 2 (.bool false)).set_ 0 (.int .u64 (v : Int))
theorem put5_chg (W : World) (b v : Nat) : Chg (fun j => j = b) W (put5 W b v) :=
  ((((Chg.refl (fun j => j = b) W).setCell (p := ⟨b, 0, none⟩) (.inl rfl) _).setCell (p := ⟨b, 1, none⟩) (.inl rfl) _).setCell (p := ⟨b, 2, none⟩) (.inl rfl) _).setCell (p := ⟨b, 0, none⟩) (.inl rfl) _
/-- What a store in mode Redo leaves. -/
def RetSr (c : CX) (g : Nat) (w : World) (S : Fp) (t : TX) (D : DataW Unit) (n : Nat) (cur : Nat → Nat) (T : Nat) (e : Ending) (w' : World) : Prop :=
  e = .returned (.tuple #[]) ∧ TxS c g w' S t D n cur T ∧ Chg (fun j => j = t.words) w w'
set_option maxRecDepth 100000 in
set_option maxHeartbeats 2000000 in
theorem store_redo_new {c : CX} {g : Nat} {w : World} {S : Fp} {t : TX} {D : DataW Unit} {n : Nat} {cur : Nat → Nat} {T : Nat} (h : TxS c g w S t D n cur T) (hop : t.open_ = true) (hmode : t.mode = 1) (o v : Nat) (h8 : o % 8 = 0) (hlt : o < 64 * 152) (hD : has D (kU o) = false) (hsz : Maps.size D < 96) (hn : n ≤ 1000) :
    Calls Tryz.prog 13 #[.pointer (some ⟨g, 0, none⟩), .int .u64 (o : Int), .int .u64 (v : Int)] w (RetSr c g w S t (D.put (kU o) (cellD v 0 false)) (n + 1) cur T) := by
  have HLt := Lib.hid h.lts
  have hov : o < 18446744073709551616 := by omega
  have HWd := Lib.hid (word_in h o h8 hlt)
  have HMi := Lib.hid (mine_none h o hov)
  have HSn : Hid (∀ k, w.heap.size ≤ k → ¬ S k) := fun k hk hs => by have := h.base.dev.lt _ hs; omega
  obtain ⟨v1, x1, p1, hlk, _⟩ := look_cell h.maps.words hov
  rw [hD] at hlk
  have hbw : Below w.heap.size w (w.alloc (.cells #[.int .u64 (v1 : Int), .int .u64 (x1 : Int), .bool p1] 107)) := (Below.refl _ w).alloc (Nat.le_refl _) _
  have hxw := h.more_ hbw
  have HEn := Lib.hid (enter_redo hxw hmode o)
  have hlen : ∀ ty, (Builtin.len_ #[95] ty #[.map (some t.words)]).run Tryz.prog (w.alloc (.cells #[.int .u64 (v1 : Int), .int .u64 (x1 : Int), .bool p1] 107)) = .ok (.int .i64 (Maps.size D)) (w.alloc (.cells #[.int .u64 (v1 : Int), .int .u64 (x1 : Int), .bool p1] 107)) := fun ty => hxw.maps.words.len Tryz.underlying95 ty
  have e96 : decide (96 ≤ (Maps.size D : Int)) = false := decide_eq_false (by omega)
  have HB6 := Lib.hid (Blk.new w 107 #[.int .u64 (v1 : Int), .int .u64 (x1 : Int), .bool p1])
  have HXw := Lib.hid hxw
  have HBw := Lib.hid hbw
  have HSz : Hid (w.heap.size < (w.alloc (.cells #[.int .u64 (v1 : Int), .int .u64 (x1 : Int), .bool p1] 107)).heap.size) := Lib.hid (by simp)
  have c8 : w.cell? ⟨g, 8, none⟩ = some (.bool true) := (h.tx.cell 8).trans (by simp [txCells, hop])
  have c0 : w.cell? ⟨g, 0, none⟩ = some (.map (some t.words)) := h.tx.cell 0
  have d0 : (w.alloc (.cells #[.int .u64 (v1 : Int), .int .u64 (x1 : Int), .bool p1] 107)).cell? ⟨g, 0, none⟩ = some (.map (some t.words)) := hxw.tx.cell 0
  have hlg : g < w.heap.size := h.tx.lt
  clear h hxw hbw hop hmode hD
  unfold cellV at hlk
  go_enter Tryz.func13, Tryz.ntmps13
  go_wp2_with (first
    | (go_at_call 51; refine HWd.out.mono ?_; rintro e w1 ⟨rfl, rfl⟩)
    | (go_at_call 52; refine HMi.out.mono ?_; rintro e w1 ⟨rfl, rfl⟩)
    | (go_at_call 53; refine stop ?_)
    | go_in)
  unfold Stop
  refine HEn.out.mono ?_
  rintro e W1 ⟨rfl, hb1⟩
  unfold cellV
  have HX1 := Lib.hid (HXw.out.more_ hb1)
  have HB61 := Lib.hid (HB6.out.below hb1 HSz.out)
  have HBw1 := Lib.hid (HBw.out.trans (hb1.mono HBw.out.size))
  have HS6 := Lib.hid (HSn.out _ (Nat.le_refl _))
  clear hb1 HEn HWd HMi HXw HB6 HBw
  have b0 : W1.cell? ⟨w.heap.size, 0, none⟩ = some (.int .u64 (v1 : Int)) := HB61.out.cell 0
  have b1 : W1.cell? ⟨w.heap.size, 1, none⟩ = some (.int .u64 (x1 : Int)) := HB61.out.cell 1
  have b2 : W1.cell? ⟨w.heap.size, 2, none⟩ = some (.bool p1) := HB61.out.cell 2
  have z0 : W1.frozen? ⟨w.heap.size, 0, none⟩ = false := HB61.out.frozen 0
  have z1 : W1.frozen? ⟨w.heap.size, 1, none⟩ = false := HB61.out.frozen 1
  have z2 : W1.frozen? ⟨w.heap.size, 2, none⟩ = false := HB61.out.frozen 2
  have HX2 := Lib.hid (HX1.out.put5 HLt.out (Nat.le_refl _) HS6.out v)
  have HB62 := Lib.hid (blk_put5 HB61.out v)
  have HZ2 : Hid (Chg (fun j => j = t.words) w (put5 W1 w.heap.size v)) := Lib.hid ((Chg.of_below HBw1.out).trans ((put5_chg W1 w.heap.size v).mono (T := fun j => w.heap.size ≤ j) (fun k hk => by rw [hk]; exact Nat.le_refl _)) (fun k hk => .inr hk))
  have HW2 : Hid (put5 W1 w.heap.size v = (((W1.setCell ⟨w.heap.size, 0, none⟩ (.int .u64 0)).setCell ⟨w.heap.size, 1, none⟩ (.int .u64 0)).setCell ⟨w.heap.size, 2, none⟩ (.bool false)).setCell ⟨w.heap.size, 0, none⟩ (.int .u64 (v : Int))) := Lib.hid rfl
  go_wp2_with fail
  rw [← HW2.out]
  generalize put5 W1 w.heap.size v = W2 at *
  clear b0 b1 b2 z0 z1 z2 HX1 HB61 HW2
  have HX3d : Hid (TxS c g W2.drew S t D n cur T) := Lib.hid (HX2.out.more_ (Below.refl _ _).drew)
  obtain ⟨w3, hrun, hos, hgr⟩ := HX3d.out.maps.words.update keyedU Tryz.underlying95 (by unfold maxLen; omega) (keyU hov) (cellR_mk v 0 false)
  have HX4 := Lib.hid (HX3d.out.put hgr hos)
  have HZ4 := Lib.hid (HZ2.out.drew.grown hgr (fun g hg => .inl (by cases hg; rfl)))
  unfold cellV at hrun
  rw [show ((0 : Nat) : Int) = 0 from rfl] at hrun
  clear hos hgr
  have HS0 : Hid (W2.drew.cell? ⟨g, 0, none⟩ = some (.map (some t.words)) ∧ W2.drew.cell? ⟨w.heap.size, 0, none⟩ = some (.int .u64 (v : Int)) ∧ W2.drew.cell? ⟨w.heap.size, 1, none⟩ = some (.int .u64 0) ∧ W2.drew.cell? ⟨w.heap.size, 2, none⟩ = some (.bool false)) := Lib.hid ⟨HX3d.out.tx.cell 0, HB62.out.cell 0, HB62.out.cell 1, HB62.out.cell 2⟩
  refine wp_region_script (fun w' => w'.cell? ⟨g, 0, none⟩ = some (.map (some t.words)) ∧ w'.cell? ⟨w.heap.size, 0, none⟩ = some (.int .u64 (v : Int)) ∧ w'.cell? ⟨w.heap.size, 1, none⟩ = some (.int .u64 0) ∧ w'.cell? ⟨w.heap.size, 2, none⟩ = some (.bool false)) 7 [(true, 0), (true, 1), (true, 2), (true, 3), (true, 4), (true, 5), (true, 6)] (by kernel_rfl) (by kernel_rfl) HS0.out ?_
  refine wpScript_take (.pointer (some ⟨g, 0, none⟩)) (by rfl) (by rfl) (fun w' hS => ?_) ?_
  · go_simp
  simp only [List.getElem_toArray, List.getElem_cons_zero, Act.put, List.setIfInBounds_toArray, List.set_cons_zero, List.set_cons_succ]
  refine wpScript_take (.pointer (some ⟨g, 0, none⟩)) (by rfl) (by rfl) (fun w' hS => ?_) ?_
  · go_simp
  simp only [List.getElem_toArray, List.getElem_cons_zero, List.getElem_cons_succ, Act.put, List.setIfInBounds_toArray, List.set_cons_zero, List.set_cons_succ]
  refine wpScript_take (.pointer (some ⟨g, 0, none⟩)) (by rfl) (by rfl) (fun w' hS => ?_) ?_
  · go_simp
  simp only [List.getElem_toArray, List.getElem_cons_zero, List.getElem_cons_succ, Act.put, List.setIfInBounds_toArray, List.set_cons_zero, List.set_cons_succ]
  refine wpScript_take (.pointer (some ⟨g, 0, none⟩)) (by rfl) (by rfl) (fun w' hS => ?_) ?_
  · go_simp
  simp only [List.getElem_toArray, List.getElem_cons_zero, List.getElem_cons_succ, Act.put, List.setIfInBounds_toArray, List.set_cons_zero, List.set_cons_succ]
  refine wpScript_take (.map (some t.words)) (by rfl) (by rfl) (fun w' hS => ?_) ?_
  · obtain ⟨f1, _, _, _⟩ := hS
    go_simp
  simp only [List.getElem_toArray, List.getElem_cons_zero, List.getElem_cons_succ, Act.put, List.setIfInBounds_toArray, List.set_cons_zero, List.set_cons_succ]
  refine wpScript_take (.int .u64 (o : Int)) (by rfl) (by rfl) (fun w' hS => ?_) ?_
  · go_simp
  simp only [List.getElem_toArray, List.getElem_cons_zero, List.getElem_cons_succ, Act.put, List.setIfInBounds_toArray, List.set_cons_zero, List.set_cons_succ]
  refine wpScript_take (.agg #[.int .u64 (v : Int), .int .u64 0, .bool false]) (by rfl) (by rfl) (fun w' hS => ?_) ?_
  · obtain ⟨_, f1, f2, f3⟩ := hS
    go_simp
  simp only [List.getElem_toArray, List.getElem_cons_zero, List.getElem_cons_succ, Act.put, List.setIfInBounds_toArray, List.set_cons_zero, List.set_cons_succ]
  show wpList _ _ _ _ _ _
  simp only [List.drop_succ_cons, List.drop_zero]
  go_wp2
  refine NoPanic.normal ?_
  go_wp2
  go_end0
  exact ⟨rfl, HX4.out, HZ4.out⟩
set_option maxRecDepth 100000 in
set_option maxHeartbeats 2000000 in
theorem store_redo_old {c : CX} {g : Nat} {w : World} {S : Fp} {t : TX} {D : DataW Unit} {n : Nat} {cur : Nat → Nat} {T : Nat} (h : TxS c g w S t D n cur T) (hop : t.open_ = true) (o v : Nat) (h8 : o % 8 = 0) (hlt : o < 64 * 152) (v0 : Nat) (hD : has D (kU o) = true) (hat : D.atKey (kU o) (cellD 0 0 false) = cellD v0 0 false) (hn : n ≤ 1000) :
    Calls Tryz.prog 13 #[.pointer (some ⟨g, 0, none⟩), .int .u64 (o : Int), .int .u64 (v : Int)] w (RetSr c g w S t (D.put (kU o) (cellD v 0 false)) (n + 1) cur T) := by
  have HLt := Lib.hid h.lts
  have hov : o < 18446744073709551616 := by omega
  have HWd := Lib.hid (word_in h o h8 hlt)
  have HMi := Lib.hid (mine_none h o hov)
  have HSn : Hid (∀ k, w.heap.size ≤ k → ¬ S k) := fun k hk hs => by have := h.base.dev.lt _ hs; omega
  obtain ⟨v1, x1, p1, hlk, hc⟩ := look_cell h.maps.words hov
  rw [hat] at hc
  obtain ⟨rfl, rfl, rfl⟩ := cellD_inj hc
  rw [hD] at hlk
  have hbw : Below w.heap.size w (w.alloc (.cells #[.int .u64 (v0 : Int), .int .u64 0, .bool false] 107)) := (Below.refl _ w).alloc (Nat.le_refl _) _
  have HX1 := Lib.hid (h.more_ hbw)
  have HB61 := Lib.hid (Blk.new w 107 #[.int .u64 (v0 : Int), .int .u64 0, .bool false])
  have c8 : w.cell? ⟨g, 8, none⟩ = some (.bool true) := (h.tx.cell 8).trans (by simp [txCells, hop])
  have c0 : w.cell? ⟨g, 0, none⟩ = some (.map (some t.words)) := h.tx.cell 0
  have HX2 := Lib.hid (HX1.out.other HLt.out (Nat.le_refl _) (HSn.out _ (Nat.le_refl _)) 0 (.int .u64 (v : Int)))
  have HB62 : Hid (Blk ((w.alloc (.cells #[.int .u64 (v0 : Int), .int .u64 0, .bool false] 107)).setCell ⟨w.heap.size, 0, none⟩ (.int .u64 (v : Int))) w.heap.size 107 #[.int .u64 (v : Int), .int .u64 0, .bool false]) := Lib.hid (HB61.out.set_ 0 (.int .u64 (v : Int)))
  have hW2 : (w.alloc (.cells #[.int .u64 (v0 : Int), .int .u64 0, .bool false] 107)).setCell ⟨w.heap.size, 0, none⟩ (.int .u64 (v : Int)) = w.alloc (.cells #[.int .u64 (v : Int), .int .u64 0, .bool false] 107) := by simp [go_sem]
  rw [hW2] at HX2 HB62
  have HZ2 : Hid (Chg (fun j => j = t.words) w (w.alloc (.cells #[.int .u64 (v : Int), .int .u64 0, .bool false] 107))) := Lib.hid (Chg.of_below ((Below.refl _ w).alloc (Nat.le_refl _) _))
  have hlg : g < w.heap.size := h.tx.lt
  clear h hbw hop hD hat hc hW2 HB61 HX1
  unfold cellV at hlk
  go_enter Tryz.func13, Tryz.ntmps13
  go_wp2_with (first
    | (go_at_call 51; refine HWd.out.mono ?_; rintro e w1 ⟨rfl, rfl⟩)
    | (go_at_call 52; refine HMi.out.mono ?_; rintro e w1 ⟨rfl, rfl⟩)
    | go_in)
  generalize w.alloc (.cells #[.int .u64 (v : Int), .int .u64 0, .bool false] 107) = W2 at *
  clear HWd HMi
  have HX3d : Hid (TxS c g W2.drew S t D n cur T) := Lib.hid (HX2.out.more_ (Below.refl _ _).drew)
  obtain ⟨w3, hrun, hos, hgr⟩ := HX3d.out.maps.words.update keyedU Tryz.underlying95 (by unfold maxLen; omega) (keyU hov) (cellR_mk v 0 false)
  have HX4 := Lib.hid (HX3d.out.put hgr hos)
  have HZ4 := Lib.hid (HZ2.out.drew.grown hgr (fun g hg => .inl (by cases hg; rfl)))
  unfold cellV at hrun
  rw [show ((0 : Nat) : Int) = 0 from rfl] at hrun
  clear hos hgr
  have HS0 : Hid (W2.drew.cell? ⟨g, 0, none⟩ = some (.map (some t.words)) ∧ W2.drew.cell? ⟨w.heap.size, 0, none⟩ = some (.int .u64 (v : Int)) ∧ W2.drew.cell? ⟨w.heap.size, 1, none⟩ = some (.int .u64 0) ∧ W2.drew.cell? ⟨w.heap.size, 2, none⟩ = some (.bool false)) := Lib.hid ⟨HX3d.out.tx.cell 0, HB62.out.cell 0, HB62.out.cell 1, HB62.out.cell 2⟩
  refine wp_region_script (fun w' => w'.cell? ⟨g, 0, none⟩ = some (.map (some t.words)) ∧ w'.cell? ⟨w.heap.size, 0, none⟩ = some (.int .u64 (v : Int)) ∧ w'.cell? ⟨w.heap.size, 1, none⟩ = some (.int .u64 0) ∧ w'.cell? ⟨w.heap.size, 2, none⟩ = some (.bool false)) 7 [(true, 0), (true, 1), (true, 2), (true, 3), (true, 4), (true, 5), (true, 6)] (by kernel_rfl) (by kernel_rfl) HS0.out ?_
  refine wpScript_take (.pointer (some ⟨g, 0, none⟩)) (by rfl) (by rfl) (fun w' hS => ?_) ?_
  · go_simp
  simp only [List.getElem_toArray, List.getElem_cons_zero, Act.put, List.setIfInBounds_toArray, List.set_cons_zero, List.set_cons_succ]
  refine wpScript_take (.pointer (some ⟨g, 0, none⟩)) (by rfl) (by rfl) (fun w' hS => ?_) ?_
  · go_simp
  simp only [List.getElem_toArray, List.getElem_cons_zero, List.getElem_cons_succ, Act.put, List.setIfInBounds_toArray, List.set_cons_zero, List.set_cons_succ]
  refine wpScript_take (.pointer (some ⟨g, 0, none⟩)) (by rfl) (by rfl) (fun w' hS => ?_) ?_
  · go_simp
  simp only [List.getElem_toArray, List.getElem_cons_zero, List.getElem_cons_succ, Act.put, List.setIfInBounds_toArray, List.set_cons_zero, List.set_cons_succ]
  refine wpScript_take (.pointer (some ⟨g, 0, none⟩)) (by rfl) (by rfl) (fun w' hS => ?_) ?_
  · go_simp
  simp only [List.getElem_toArray, List.getElem_cons_zero, List.getElem_cons_succ, Act.put, List.setIfInBounds_toArray, List.set_cons_zero, List.set_cons_succ]
  refine wpScript_take (.map (some t.words)) (by rfl) (by rfl) (fun w' hS => ?_) ?_
  · obtain ⟨f1, _, _, _⟩ := hS
    go_simp
  simp only [List.getElem_toArray, List.getElem_cons_zero, List.getElem_cons_succ, Act.put, List.setIfInBounds_toArray, List.set_cons_zero, List.set_cons_succ]
  refine wpScript_take (.int .u64 (o : Int)) (by rfl) (by rfl) (fun w' hS => ?_) ?_
  · go_simp
  simp only [List.getElem_toArray, List.getElem_cons_zero, List.getElem_cons_succ, Act.put, List.setIfInBounds_toArray, List.set_cons_zero, List.set_cons_succ]
  refine wpScript_take (.agg #[.int .u64 (v : Int), .int .u64 0, .bool false]) (by rfl) (by rfl) (fun w' hS => ?_) ?_
  · obtain ⟨_, f1, f2, f3⟩ := hS
    go_simp
  simp only [List.getElem_toArray, List.getElem_cons_zero, List.getElem_cons_succ, Act.put, List.setIfInBounds_toArray, List.set_cons_zero, List.set_cons_succ]
  show wpList _ _ _ _ _ _
  simp only [List.drop_succ_cons, List.drop_zero]
  go_wp2
  refine NoPanic.normal ?_
  go_wp2
  go_end0
  exact ⟨rfl, HX4.out, HZ4.out⟩
set_option maxRecDepth 100000 in
set_option maxHeartbeats 1000000 in
theorem word_out {c : CX} {g : Nat} {w : World} {S : Fp} {t : TX} {D : DataW Unit} {n : Nat} {cur : Nat → Nat} {T : Nat} (h : TxS c g w S t D n cur T) (o : Nat) (hbad : o % 8 ≠ 0 ∨ 64 * 152 ≤ o) :
    Calls Tryz.prog 51 #[.pointer (some ⟨g, 0, none⟩), .int .u64 (o : Int)] w fun e w' => e = .returned (.bool false) ∧ w = w' := by
  have c6 : w.cell? ⟨g, 6, none⟩ = some (.pointer (some ⟨c.x.m, 0, none⟩)) := h.tx.cell 6
  have m0 : w.cell? ⟨c.x.m, 0, none⟩ = some (.pointer (some ⟨c.a.th 0, 0, none⟩)) := h.base.sys.m.cell 0
  obtain ⟨ls, exe, per, cs, lsC, hdc, hnt⟩ := h.base.dev
  obtain ⟨f0, f2, _, _, f4⟩ := hdc.facts (j := 0) (by omega)
  clear hdc hnt h
  by_cases h8 : o % 8 = 0
  · have e1 : ((o : Int) % 8 == 0) = true := by rw [beq_iff_eq]; omega
    have e1' : (o : Int) % 8 = 0 := by omega
    have e2 : decide ((o : Int) < 9728) = false := decide_eq_false (by omega)
    have e3 : decide (o < 9728) = false := decide_eq_false (by omega)
    go_enter Tryz.func51, Tryz.ntmps51
    go_wp2
    go_ret
    exact ⟨rfl, rfl⟩
  · have e1 : ((o : Int) % 8 == 0) = false := by
      rw [beq_eq_false_iff_ne]; omega
    go_enter Tryz.func51, Tryz.ntmps51
    go_wp2
    go_ret
    exact ⟨rfl, rfl⟩
set_option maxRecDepth 100000 in
set_option maxHeartbeats 1000000 in
theorem store_out {c : CX} {g : Nat} {w : World} {S : Fp} {t : TX} {D : DataW Unit} {n : Nat} {cur : Nat → Nat} {T : Nat} (h : TxS c g w S t D n cur T) (hop : t.open_ = true) (o v : Nat) (hbad : o % 8 ≠ 0 ∨ 64 * 152 ≤ o) :
    Calls Tryz.prog 13 #[.pointer (some ⟨g, 0, none⟩), .int .u64 (o : Int), .int .u64 (v : Int)] w fun e w' => e = .returned (.tuple #[]) ∧ TxS c g w' S { t with outside := true } D n cur T := by
  have HWd := Lib.hid (word_out h o hbad)
  have c8 : w.cell? ⟨g, 8, none⟩ = some (.bool true) := (h.tx.cell 8).trans (by simp [txCells, hop])
  have c4 : w.cell? ⟨g, 4, none⟩ = some (.bool t.outside) := h.tx.cell 4
  have z4 : w.frozen? ⟨g, 4, none⟩ = false := h.tx.frozen 4
  have HX := Lib.hid (h.set 4 (.bool true) { t with outside := true } rfl ⟨rfl, rfl, rfl, rfl, rfl, rfl⟩)
  clear h hop
  go_enter Tryz.func13, Tryz.ntmps13
  go_wp2_with (first
    | (go_at_call 51; refine HWd.out.mono ?_; rintro e w1 ⟨rfl, rfl⟩)
    | go_in)
  refine bodyPost_ret (results_none rfl _ _ _) rfl ?_
  exact ⟨rfl, HX.out⟩
end Go.Proofs.YtklpeghhgoeeiaaGreatDoor
/- tx: revert, Abort in both modes without own blocks; Commit of a transaction with an error. -/
namespace Go.Proofs.YtklpeghhgoeeiaaGreatDoor
open Go.RowKit Go.Maps Go.Sort Go.Shelf
set_option maxRecDepth 100000 in
set_option maxHeartbeats 1000000 in
theorem revert_any {c : CX} {g : Nat} {w : World} {S : Fp} {t : TX} {D : DataW Unit} {n : Nat} {cur : Nat → Nat} {T : Nat} (h : TxS c g w S t D n cur T) {ws : List (Nat × Nat)} (hl : LogU cur 30 ws) (hw : EntO ws) (hT : T ≤ 1000000) :
    Calls Tryz.prog 82 #[.pointer (some ⟨g, 0, none⟩)] w (RetSt c g w S t D n (rbC cur ws) (T + 240) (.int .i64 0)) := by
  have c6 : w.cell? ⟨g, 6, none⟩ = some (.pointer (some ⟨c.x.m, 0, none⟩)) := h.tx.cell 6
  have m0 : w.cell? ⟨c.x.m, 0, none⟩ = some (.pointer (some ⟨c.a.th 0, 0, none⟩)) := h.base.sys.m.cell 0
  have m2 : w.cell? ⟨c.x.m, 2, none⟩ = some (.pointer (some ⟨c.x.u, 0, none⟩)) := h.base.sys.m.cell 2
  have HE := Lib.hid (err_dev h.base.dev (j := 0) (by omega))
  have HR := Lib.hid (rollbackU_all h.base.dev c.x.u h.base.sys.u ws hl hw (by omega))
  have HX := Lib.hid h
  clear h hl hw
  go_enter Tryz.func82, Tryz.ntmps82
  go_wp2_with fail
  refine HE.out.mono ?_
  rintro e w1 ⟨rfl, rfl⟩
  go_wp2_with fail
  refine HR.out.mono ?_
  intro e W1 h1
  obtain ⟨rfl, S1, hx1, hc1, hg1⟩ := HX.out.step h1
  have HX1 := Lib.hid hx1
  have HI := Lib.hid (show StI c g w W1 S t D n (rbC cur ws) (T + 240) from ⟨S1, hx1, hc1, hg1⟩)
  have k1 : W1.cell? ⟨g, 1, none⟩ = some (.map (some t.inner)) := hx1.tx.cell 1
  have HSo := Lib.hid (sortU0 W1 t.inner hx1.maps.inner)
  clear h1 hx1 hc1 hg1 c6 m0 m2 HE HR
  go_wp2_with fail
  refine (keysU_any _ _).mono ?_
  rintro e w1 ⟨rfl, rfl⟩
  go_wp2_with fail
  refine HSo.out.mono ?_
  rintro e W5 ⟨⟨A5, c5, rfl⟩, hb5⟩
  have hb : Below W1.heap.size W1 W5 := ((Below.refl _ W1).alloc (Nat.le_refl _) _).trans (hb5.mono (by simp))
  have HI5 := Lib.hid (HI.out.below hb)
  clear hb hb5 HSo HI HX1 k1
  go_wp2_with fail
  refine wp_loop_rounds 1 ?_
  rw [rounds_succ]
  go_wp2
  go_ret
  exact ⟨rfl, HI5.out⟩
set_option maxRecDepth 100000 in
set_option maxHeartbeats 1000000 in
theorem abort_undo_z {c : CX} {g : Nat} {w : World} {S : Fp} {t : TX} {D : DataW Unit} {n : Nat} {cur : Nat → Nat} {T : Nat} (h : TxS c g w S t D n cur T) (hop : t.open_ = true) (hmode : t.mode = 2) {ws : List (Nat × Nat)} (hl : LogU cur 30 ws) (hw : EntO ws) (hT : T ≤ 1000000) :
    Calls Tryz.prog 31 #[.pointer (some ⟨g, 0, none⟩)] w (RetCmtZ c g w S t (rbC cur ws) (T + 240) (.int .i64 0)) := by
  have c8 : w.cell? ⟨g, 8, none⟩ = some (.bool true) := (h.tx.cell 8).trans (by simp [txCells, hop])
  have c7 : w.cell? ⟨g, 7, none⟩ = some (.int .u8 2) := (h.tx.cell 7).trans (by simp [txCells, hmode])
  have HR := Lib.hid (revert_any h hl hw hT)
  clear h hl hw hop hmode
  go_enter Tryz.func31, Tryz.ntmps31
  go_wp2_with (first
    | (go_at_call 82; refine stop ?_)
    | go_in)
  unfold Stop
  refine HR.out.mono ?_
  rintro e W1 ⟨rfl, S1, hx1, hc1, hg1⟩
  have HEn := Lib.hid (end_z hx1)
  have HZ1 : Hid (Chg (ZC c g S) w W1) := Lib.hid (hc1.mono (fun _ h => .inl h))
  have HG1 := Lib.hid hg1
  clear hx1 hc1 hg1 HR c8 c7
  go_wp2_with fail
  refine HEn.out.mono ?_
  rintro e W2 ⟨rfl, hx2, hz2⟩
  have HX2 := Lib.hid hx2
  have HZ2 := Lib.hid (HZ1.out.trans (hz2.mono (T := ZC c g S) (fun _ h => .inr h)) (Grew.refl _ _))
  have k6 : W2.cell? ⟨g, 6, none⟩ = some (.pointer (some ⟨c.x.m, 0, none⟩)) := hx2.tx.cell 6
  have m0 : W2.cell? ⟨c.x.m, 0, none⟩ = some (.pointer (some ⟨c.a.th 0, 0, none⟩)) := hx2.base.sys.m.cell 0
  have HE := Lib.hid (err_dev hx2.base.dev (j := 0) (by omega))
  clear hx2 hz2 HEn
  go_wp2_with fail
  refine HE.out.mono ?_
  rintro e w1 ⟨rfl, rfl⟩
  go_wp2
  go_ret
  exact ⟨S1, rfl, HX2.out, HZ2.out, HG1.out⟩
set_option maxRecDepth 100000 in
set_option maxHeartbeats 1000000 in
theorem abort_redo_z {c : CX} {g : Nat} {w : World} {S : Fp} {t : TX} {D : DataW Unit} {n : Nat} {cur : Nat → Nat} {T : Nat} (h : TxS c g w S t D n cur T) (hop : t.open_ = true) (hmode : t.mode = 1) :
    Calls Tryz.prog 31 #[.pointer (some ⟨g, 0, none⟩)] w (RetCmtZ c g w S t cur T (.int .i64 0)) := by
  have c8 : w.cell? ⟨g, 8, none⟩ = some (.bool true) := (h.tx.cell 8).trans (by simp [txCells, hop])
  have c7 : w.cell? ⟨g, 7, none⟩ = some (.int .u8 1) := (h.tx.cell 7).trans (by simp [txCells, hmode])
  have HEn := Lib.hid (end_z h)
  clear h hop hmode
  go_enter Tryz.func31, Tryz.ntmps31
  go_wp2_with (first
    | (go_at_call 70; refine stop ?_)
    | go_in)
  unfold Stop
  refine HEn.out.mono ?_
  rintro e W2 ⟨rfl, hx2, hz2⟩
  have HX2 := Lib.hid hx2
  have HZ2 : Hid (Chg (ZC c g S) w W2) := Lib.hid (hz2.mono (T := ZC c g S) (fun _ h => .inr h))
  have k6 : W2.cell? ⟨g, 6, none⟩ = some (.pointer (some ⟨c.x.m, 0, none⟩)) := hx2.tx.cell 6
  have m0 : W2.cell? ⟨c.x.m, 0, none⟩ = some (.pointer (some ⟨c.a.th 0, 0, none⟩)) := hx2.base.sys.m.cell 0
  have HE := Lib.hid (err_dev hx2.base.dev (j := 0) (by omega))
  clear hx2 hz2 HEn
  go_wp2_with fail
  refine HE.out.mono ?_
  rintro e w1 ⟨rfl, rfl⟩
  go_wp2
  go_ret
  exact ⟨S, rfl, HX2.out, HZ2.out, Grew.refl _ _⟩
theorem abort_undo {c : CX} {g : Nat} {w : World} {S : Fp} {t : TX} {D : DataW Unit} {n : Nat} {cur : Nat → Nat} {T : Nat} (h : TxS c g w S t D n cur T) (hop : t.open_ = true) (hmode : t.mode = 2) {ws : List (Nat × Nat)} (hl : LogU cur 30 ws) (hw : EntO ws) (hT : T ≤ 1000000) :
    Calls Tryz.prog 31 #[.pointer (some ⟨g, 0, none⟩)] w (RetCmt c g t (rbC cur ws) (T + 240) (.int .i64 0)) :=
  (abort_undo_z h hop hmode hl hw hT).mono (fun _ _ ⟨S', h1, h2, _⟩ => ⟨S', h1, h2⟩)
theorem abort_redo {c : CX} {g : Nat} {w : World} {S : Fp} {t : TX} {D : DataW Unit} {n : Nat} {cur : Nat → Nat} {T : Nat} (h : TxS c g w S t D n cur T) (hop : t.open_ = true) (hmode : t.mode = 1) :
    Calls Tryz.prog 31 #[.pointer (some ⟨g, 0, none⟩)] w (RetCmt c g t cur T (.int .i64 0)) :=
  (abort_redo_z h hop hmode).mono (fun _ _ ⟨S', h1, h2, _⟩ => ⟨S', h1, h2⟩)
set_option maxRecDepth 100000 in
set_option maxHeartbeats 1000000 in
theorem commit_fail {c : CX} {g : Nat} {w : World} {S : Fp} {t : TX} {D : DataW Unit} {n : Nat} {cur cur' : Nat → Nat} {T T' : Nat} (h : TxS c g w S t D n cur T) (hop : t.open_ = true) (hout : t.outside = true) (hab : Calls Tryz.prog 31 #[.pointer (some ⟨g, 0, none⟩)] w (RetCmt c g t cur' T' (.int .i64 0))) :
    Calls Tryz.prog 17 #[.pointer (some ⟨g, 0, none⟩)] w (RetCmt c g t cur' T' (.int .i64 2)) := by
  have c8 : w.cell? ⟨g, 8, none⟩ = some (.bool true) := (h.tx.cell 8).trans (by simp [txCells, hop])
  have HE := Lib.hid (xErr_any h)
  rw [show errT t = 2 by simp [errT, hout]] at HE
  have HA := Lib.hid hab
  clear h hop hab hout
  go_enter Tryz.func17, Tryz.ntmps17
  go_wp2_with (first
    | (go_at_call 22; refine HE.out.mono ?_; rintro e w1 ⟨rfl, rfl⟩)
    | (go_at_call 31; refine stop ?_)
    | go_in)
  unfold Stop
  refine HA.out.mono ?_
  rintro e W1 ⟨S1, rfl, hx1⟩
  have HX1 := Lib.hid hx1
  clear hx1 HA HE
  go_wp2
  go_ret
  exact ⟨S1, rfl, HX1.out⟩
set_option maxRecDepth 100000 in
set_option maxHeartbeats 1000000 in
theorem commit_full {c : CX} {g : Nat} {w : World} {S : Fp} {t : TX} {D : DataW Unit} {n : Nat} {cur cur' : Nat → Nat} {T T' : Nat} (h : TxS c g w S t D n cur T) (hop : t.open_ = true) (hout : t.outside = false) (hsur : t.surplus = true) (hab : Calls Tryz.prog 31 #[.pointer (some ⟨g, 0, none⟩)] w (RetCmtZ c g w S t cur' T' (.int .i64 0))) :
    Calls Tryz.prog 17 #[.pointer (some ⟨g, 0, none⟩)] w (RetCmtZ c g w S t cur' T' (.int .i64 9)) := by
  have c8 : w.cell? ⟨g, 8, none⟩ = some (.bool true) := (h.tx.cell 8).trans (by simp [txCells, hop])
  have HE := Lib.hid (xErr_any h)
  rw [show errT t = 9 by simp [errT, hout, hsur]] at HE
  have HA := Lib.hid hab
  clear h hop hab hout hsur
  go_enter Tryz.func17, Tryz.ntmps17
  go_wp2_with (first
    | (go_at_call 22; refine HE.out.mono ?_; rintro e w1 ⟨rfl, rfl⟩)
    | (go_at_call 31; refine stop ?_)
    | go_in)
  unfold Stop
  refine HA.out.mono ?_
  rintro e W1 ⟨S1, rfl, hx1⟩
  have HX1 := Lib.hid hx1
  clear hx1 HA HE
  go_wp2
  go_ret
  exact ⟨S1, rfl, HX1.out⟩
end Go.Proofs.YtklpeghhgoeeiaaGreatDoor
