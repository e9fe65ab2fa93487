/- The walks and laws that the claim leans on, part 16: each part says ahead of its lines what it holds. -/
import Derived.Test.YtklpeghhgoeeiaaGreatDoorKao
import Derived.Shelf.SlMaps.Clone
/- tx: Store of a word that is changed already, in mode Undo; Load. -/
namespace Go.Proofs.YtklpeghhgoeeiaaGreatDoor
open Go.RowKit Go.Maps
theorem cellD_inj {a b a' b' : Nat} {p p' : Bool} (h : cellD a b p = cellD a' b' p') : a = a' ∧ b = b' ∧ p = p' := by
  simp [cellD] at h
  obtain ⟨h1, h2, h3⟩ := h
  exact ⟨by omega, by omega, h3⟩
/-- As RetTx, with what turned. -/
def RetTxF (c : CX) (g : Nat) (w : World) (S Z : Fp) (t : TX) (D : DataW Unit) (n : Nat) (cur' : Nat → Nat) (T' : Nat) (v : Value) (e : Ending) (w' : World) : Prop :=
  ∃ S', e = .returned v ∧ TxS c g w' S' t D n cur' T' ∧ Chg Z w w' ∧ Grew S S' w
set_option maxRecDepth 100000 in
set_option maxHeartbeats 8000000 in
theorem store_old {c : CX} {g : Nat} {w : World} {S : Fp} {t : TX} {D : DataW Unit} {n : Nat} {cur : Nat → Nat} {T : Nat} (h : TxS c g w S t D n cur T) (hop : t.open_ = true) (o v v0 old : Nat) (ho : OffOk 152 30 26 o) (hD : has D (kU o) = true) (hat : D.atKey (kU o) (cellD 0 0 false) = cellD v0 old true) (hn : n ≤ 1000) (hT : T ≤ 1000000) :
    Calls Tryz.prog 13 #[.pointer (some ⟨g, 0, none⟩), .int .u64 (o : Int), .int .u64 (v : Int)] w (RetTxF c g w S (SG S t.words) t (D.put (kU o) (cellD v old true)) (n + 1) (upd cur (o / 8) v) (T + 1) (.tuple #[])) := by
  have HLt := Lib.hid h.lts
  have hov : o < 18446744073709551616 := by have := ho.lt; omega
  have HWd := Lib.hid (word_in h o ho.al ho.lt)
  have HMi := Lib.hid (mine_none h o hov)
  have HSn : Hid (∀ k, w.heap.size ≤ k → ¬ S k) := fun k hk hs => by have := h.base.dev.lt _ hs; omega
  obtain ⟨v1, x1, p1, hlk, hc⟩ := look_cell h.maps.words hov
  rw [hat] at hc
  obtain ⟨rfl, rfl, rfl⟩ := cellD_inj hc
  rw [hD] at hlk
  have hbw : Below w.heap.size w (w.alloc (.cells #[.int .u64 (v0 : Int), .int .u64 (old : Int), .bool true] 107)) := (Below.refl _ w).alloc (Nat.le_refl _) _
  have HX1 := Lib.hid (h.more_ hbw)
  have HB61 := Lib.hid (Blk.new w 107 #[.int .u64 (v0 : Int), .int .u64 (old : Int), .bool true])
  have c8 : w.cell? ⟨g, 8, none⟩ = some (.bool true) := (h.tx.cell 8).trans (by simp [txCells, hop])
  have c0 : w.cell? ⟨g, 0, none⟩ = some (.map (some t.words)) := h.tx.cell 0
  have HX2 := Lib.hid (HX1.out.other HLt.out (Nat.le_refl _) (HSn.out _ (Nat.le_refl _)) 0 (.int .u64 (v : Int)))
  have HB62 : Hid (Blk ((w.alloc (.cells #[.int .u64 (v0 : Int), .int .u64 (old : Int), .bool true] 107)).setCell ⟨w.heap.size, 0, none⟩ (.int .u64 (v : Int))) w.heap.size 107 #[.int .u64 (v : Int), .int .u64 (old : Int), .bool true]) := Lib.hid (HB61.out.set_ 0 (.int .u64 (v : Int)))
  have hW2 : (w.alloc (.cells #[.int .u64 (v0 : Int), .int .u64 (old : Int), .bool true] 107)).setCell ⟨w.heap.size, 0, none⟩ (.int .u64 (v : Int)) = w.alloc (.cells #[.int .u64 (v : Int), .int .u64 (old : Int), .bool true] 107) := by simp [go_sem]
  rw [hW2] at HX2 HB62
  have k6 : (w.alloc (.cells #[.int .u64 (v : Int), .int .u64 (old : Int), .bool true] 107)).cell? ⟨g, 6, none⟩ = some (.pointer (some ⟨c.x.m, 0, none⟩)) := HX2.out.tx.cell 6
  have k0 : (w.alloc (.cells #[.int .u64 (v : Int), .int .u64 (old : Int), .bool true] 107)).cell? ⟨c.x.m, 0, none⟩ = some (.pointer (some ⟨c.a.th 0, 0, none⟩)) := HX2.out.base.sys.m.cell 0
  have hlg : g < w.heap.size := h.tx.lt
  have HOk := Lib.hid ho
  have HS6 := Lib.hid (HSn.out _ (Nat.le_refl _))
  have HZ2 : Hid (Chg (SG S t.words) w (w.alloc (.cells #[.int .u64 (v : Int), .int .u64 (old : Int), .bool true] 107))) := Chg.of_below ((Below.refl _ w).alloc (Nat.le_refl _) _)
  have HL2 : Hid (w.heap.size ≤ (w.alloc (.cells #[.int .u64 (v : Int), .int .u64 (old : Int), .bool true] 107)).heap.size) := Lib.hid (by simp)
  clear h hbw ho hop hD hat hc hW2
  unfold cellV at hlk
  go_enter Tryz.func13, Tryz.ntmps13
  go_wp2_with (first
    | (go_at_call 51; refine HWd.out.mono ?_; rintro e w1 ⟨rfl, rfl⟩)
    | (go_at_call 52; refine HMi.out.mono ?_; rintro e w1 ⟨rfl, rfl⟩)
    | (go_at_call 43; refine stop ?_)
    | go_in)
  unfold Stop
  generalize w.alloc (.cells #[.int .u64 (v : Int), .int .u64 (old : Int), .bool true] 107) = W2 at *
  clear k6 k0 HX1 HB61 HWd HMi
  refine (store_dev HX2.out.base.dev o v HOk.out.al HOk.out.lt (by omega)).mono ?_
  intro e W3 h3
  obtain ⟨rfl, S3, hx3, hc3, hg3⟩ := HX2.out.step h3
  have HX3 := Lib.hid hx3
  have HB63 := Lib.hid (hc3.blk HB62.out HS6.out)
  have HZ3 := Lib.hid (HZ2.out.trans hc3 (fun k hk => .inl (.inl hk)))
  have HG3 : Hid (Grew S S3 w) := fun k hk => (hg3 k hk).elim .inl (fun h => .inr (Nat.le_trans HL2.out h))
  clear h3 hx3 hc3 hg3 HX2 HB62
  go_wp2
  have HX3d : Hid (TxS c g W3.drew S3 t D n (upd cur (o / 8) v) (T + 1)) := Lib.hid (HX3.out.more_ (Below.refl _ _).drew)
  obtain ⟨w3, hrun, hos, hgr⟩ := HX3d.out.maps.words.update keyedU Tryz.underlying95 (by unfold maxLen; omega) (keyU hov) (cellR_mk v old true)
  have HX4 := Lib.hid (HX3d.out.put hgr hos)
  have HZ4 := Lib.hid (HZ3.out.drew.grown hgr (fun g hg => .inl (.inr (by cases hg; rfl))))
  unfold cellV at hrun
  clear hos hgr
  have HS0 : Hid (W3.drew.cell? ⟨g, 0, none⟩ = some (.map (some t.words)) ∧ W3.drew.cell? ⟨w.heap.size, 0, none⟩ = some (.int .u64 (v : Int)) ∧ W3.drew.cell? ⟨w.heap.size, 1, none⟩ = some (.int .u64 (old : Int)) ∧ W3.drew.cell? ⟨w.heap.size, 2, none⟩ = some (.bool true)) := Lib.hid ⟨HX3d.out.tx.cell 0, HB63.out.cell 0, HB63.out.cell 1, HB63.out.cell 2⟩
  refine wp_region_script (fun w' => w'.cell? ⟨g, 0, none⟩ = some (.map (some t.words)) ∧ w'.cell? ⟨w.heap.size, 0, none⟩ = some (.int .u64 (v : Int)) ∧ w'.cell? ⟨w.heap.size, 1, none⟩ = some (.int .u64 (old : Int)) ∧ w'.cell? ⟨w.heap.size, 2, none⟩ = some (.bool true)) 7 [(true, 0), (true, 1), (true, 2), (true, 3), (true, 4), (true, 5), (true, 6)] (by kernel_rfl) (by kernel_rfl) HS0.out ?_
  refine wpScript_take (.pointer (some ⟨g, 0, none⟩)) (by rfl) (by rfl) (fun w' hS => ?_) ?_
  · go_simp
  simp only [List.getElem_toArray, List.getElem_cons_zero, Act.put, List.setIfInBounds_toArray, List.set_cons_zero, List.set_cons_succ]
  refine wpScript_take (.pointer (some ⟨g, 0, none⟩)) (by rfl) (by rfl) (fun w' hS => ?_) ?_
  · go_simp
  simp only [List.getElem_toArray, List.getElem_cons_zero, List.getElem_cons_succ, Act.put, List.setIfInBounds_toArray, List.set_cons_zero, List.set_cons_succ]
  refine wpScript_take (.pointer (some ⟨g, 0, none⟩)) (by rfl) (by rfl) (fun w' hS => ?_) ?_
  · go_simp
  simp only [List.getElem_toArray, List.getElem_cons_zero, List.getElem_cons_succ, Act.put, List.setIfInBounds_toArray, List.set_cons_zero, List.set_cons_succ]
  refine wpScript_take (.pointer (some ⟨g, 0, none⟩)) (by rfl) (by rfl) (fun w' hS => ?_) ?_
  · go_simp
  simp only [List.getElem_toArray, List.getElem_cons_zero, List.getElem_cons_succ, Act.put, List.setIfInBounds_toArray, List.set_cons_zero, List.set_cons_succ]
  refine wpScript_take (.map (some t.words)) (by rfl) (by rfl) (fun w' hS => ?_) ?_
  · obtain ⟨f1, _, _, _⟩ := hS
    go_simp
  simp only [List.getElem_toArray, List.getElem_cons_zero, List.getElem_cons_succ, Act.put, List.setIfInBounds_toArray, List.set_cons_zero, List.set_cons_succ]
  refine wpScript_take (.int .u64 (o : Int)) (by rfl) (by rfl) (fun w' hS => ?_) ?_
  · go_simp
  simp only [List.getElem_toArray, List.getElem_cons_zero, List.getElem_cons_succ, Act.put, List.setIfInBounds_toArray, List.set_cons_zero, List.set_cons_succ]
  refine wpScript_take (.agg #[.int .u64 (v : Int), .int .u64 (old : Int), .bool true]) (by rfl) (by rfl) (fun w' hS => ?_) ?_
  · obtain ⟨_, f1, f2, f3⟩ := hS
    go_simp
  simp only [List.getElem_toArray, List.getElem_cons_zero, List.getElem_cons_succ, Act.put, List.setIfInBounds_toArray, List.set_cons_zero, List.set_cons_succ]
  show wpList _ _ _ _ _ _
  simp only [List.drop_succ_cons, List.drop_zero]
  go_wp2
  refine NoPanic.normal ?_
  go_wp2
  go_end0
  exact ⟨S3, rfl, HX4.out, HZ4.out, HG3.out⟩
set_option maxRecDepth 100000 in
set_option maxHeartbeats 4000000 in
theorem loadX_word {c : CX} {g : Nat} {w : World} {S : Fp} {t : TX} {D : DataW Unit} {n : Nat} {cur : Nat → Nat} {T : Nat} (h : TxS c g w S t D n cur T) (hop : t.open_ = true) (o v0 old : Nat) (p0 : Bool) (hov : o < 18446744073709551616) (hD : has D (kU o) = true) (hat : D.atKey (kU o) (cellD 0 0 false) = cellD v0 old p0) :
    Calls Tryz.prog 15 #[.pointer (some ⟨g, 0, none⟩), .int .u64 (o : Int)] w fun e w' => e = .returned (.int .u64 (v0 : Int)) ∧ Below w.heap.size w w' := by
  obtain ⟨v1, x1, p1, hlk, hc⟩ := look_cell h.maps.words hov
  rw [hat] at hc
  obtain ⟨rfl, rfl, rfl⟩ := cellD_inj hc
  rw [hD] at hlk
  have c8 : w.cell? ⟨g, 8, none⟩ = some (.bool true) := (h.tx.cell 8).trans (by simp [txCells, hop])
  have c0 : w.cell? ⟨g, 0, none⟩ = some (.map (some t.words)) := h.tx.cell 0
  have HB0 : Hid (∀ o, Below w.heap.size w (w.alloc o)) := fun o => (Below.refl _ w).alloc (Nat.le_refl _) o
  clear h hop hD hat hc
  unfold cellV at hlk
  go_enter Tryz.func15, Tryz.ntmps15
  go_wp2
  go_ret
  exact ⟨rfl, HB0.out _⟩
end Go.Proofs.YtklpeghhgoeeiaaGreatDoor
/- maps.Clone at the maps of a transaction; state.clone. -/
namespace Go.Proofs.YtklpeghhgoeeiaaGreatDoor
open Go.RowKit Go.Maps
set_option maxRecDepth 100000 in
set_option maxHeartbeats 4000000 in
theorem clone_cell {R : Value → Option (DataW Unit × List MemPlace)} {b n : Nat} {D : DataW Unit} (w : World) (hown : w.ownsMap Tryz.prog 35 R b n D) :
    Calls Tryz.prog 122 #[.map (some b)] w fun e w' => e = .returned (.map (some w.heap.size)) ∧ ∃ o, w' = w.alloc o ∧ ∀ W : World, (W.alloc o).ownsMap Tryz.prog 35 R W.heap.size n D := by
  obtain ⟨es, clock, hb, F, hs, hD⟩ := hown
  have hq := fun w => run_eql_map_nil_sl (P := Tryz.prog) w 95 _ _ (some b) Tryz.underlying95
  go_enter Tryz.func122, Tryz.ntmps122
  go_wp2
  rw [run_callFunc_extern Tryz.func182 (by kernel_rfl) (by kernel_rfl) (by kernel_rfl) (e := Extern.MapsClone.clone) (by kernel_rfl), run_maps_clone_sl w 95 hb]
  simp only [Result.andThen]
  rw [Oper.upon_value]
  go_wp2
  rw [run_typeAssert_map_sl _ 95 20 _ _ _ Tryz.underlying95]
  simp only [Result.andThen]
  rw [Oper.upon_value]
  go_wp2
  go_ret
  exact ⟨rfl, _, rfl, fun W => ⟨es, clock, (MapKept.heap_alloc W _).1, F, hs, hD⟩⟩
set_option maxRecDepth 100000 in
set_option maxHeartbeats 4000000 in
theorem clone_u {R : Value → Option (DataW Unit × List MemPlace)} {b n : Nat} {D : DataW Unit} (w : World) (hown : w.ownsMap Tryz.prog 35 R b n D) :
    Calls Tryz.prog 123 #[.map (some b)] w fun e w' => e = .returned (.map (some w.heap.size)) ∧ ∃ o, w' = w.alloc o ∧ ∀ W : World, (W.alloc o).ownsMap Tryz.prog 35 R W.heap.size n D := by
  obtain ⟨es, clock, hb, F, hs, hD⟩ := hown
  have hq := fun w => run_eql_map_nil_sl (P := Tryz.prog) w 96 _ _ (some b) Tryz.underlying96
  go_enter Tryz.func123, Tryz.ntmps123
  go_wp2
  rw [run_callFunc_extern Tryz.func182 (by kernel_rfl) (by kernel_rfl) (by kernel_rfl) (e := Extern.MapsClone.clone) (by kernel_rfl), run_maps_clone_sl w 96 hb]
  simp only [Result.andThen]
  rw [Oper.upon_value]
  go_wp2
  rw [run_typeAssert_map_sl _ 96 20 _ _ _ Tryz.underlying96]
  simp only [Result.andThen]
  rw [Oper.upon_value]
  go_wp2
  go_ret
  exact ⟨rfl, _, rfl, fun W => ⟨es, clock, (MapKept.heap_alloc W _).1, F, hs, hD⟩⟩
set_option maxRecDepth 100000 in
set_option maxHeartbeats 4000000 in
theorem clone_block {R : Value → Option (DataW Unit × List MemPlace)} {b n : Nat} {D : DataW Unit} (w : World) (hown : w.ownsMap Tryz.prog 35 R b n D) :
    Calls Tryz.prog 124 #[.map (some b)] w fun e w' => e = .returned (.map (some w.heap.size)) ∧ ∃ o, w' = w.alloc o ∧ ∀ W : World, (W.alloc o).ownsMap Tryz.prog 35 R W.heap.size n D := by
  obtain ⟨es, clock, hb, F, hs, hD⟩ := hown
  have hq := fun w => run_eql_map_nil_sl (P := Tryz.prog) w 97 _ _ (some b) Tryz.underlying97
  go_enter Tryz.func124, Tryz.ntmps124
  go_wp2
  rw [run_callFunc_extern Tryz.func182 (by kernel_rfl) (by kernel_rfl) (by kernel_rfl) (e := Extern.MapsClone.clone) (by kernel_rfl), run_maps_clone_sl w 97 hb]
  simp only [Result.andThen]
  rw [Oper.upon_value]
  go_wp2
  rw [run_typeAssert_map_sl _ 97 20 _ _ _ Tryz.underlying97]
  simp only [Result.andThen]
  rw [Oper.upon_value]
  go_wp2
  go_ret
  exact ⟨rfl, _, rfl, fun W => ⟨es, clock, (MapKept.heap_alloc W _).1, F, hs, hD⟩⟩
set_option maxRecDepth 100000 in
set_option maxHeartbeats 4000000 in
theorem clone_ptr {R : Value → Option (DataW Unit × List MemPlace)} {b n : Nat} {D : DataW Unit} (w : World) (hown : w.ownsMap Tryz.prog 35 R b n D) :
    Calls Tryz.prog 125 #[.map (some b)] w fun e w' => e = .returned (.map (some w.heap.size)) ∧ ∃ o, w' = w.alloc o ∧ ∀ W : World, (W.alloc o).ownsMap Tryz.prog 35 R W.heap.size n D := by
  obtain ⟨es, clock, hb, F, hs, hD⟩ := hown
  have hq := fun w => run_eql_map_nil_sl (P := Tryz.prog) w 98 _ _ (some b) Tryz.underlying98
  go_enter Tryz.func125, Tryz.ntmps125
  go_wp2
  rw [run_callFunc_extern Tryz.func182 (by kernel_rfl) (by kernel_rfl) (by kernel_rfl) (e := Extern.MapsClone.clone) (by kernel_rfl), run_maps_clone_sl w 98 hb]
  simp only [Result.andThen]
  rw [Oper.upon_value]
  go_wp2
  rw [run_typeAssert_map_sl _ 98 20 _ _ _ Tryz.underlying98]
  simp only [Result.andThen]
  rw [Oper.upon_value]
  go_wp2
  go_ret
  exact ⟨rfl, _, rfl, fun W => ⟨es, clock, (MapKept.heap_alloc W _).1, F, hs, hD⟩⟩
/-- The value of a state. -/
def stV (a b c d : Nat) (x y : Bool) : Value := .agg #[.map (some a), .map (some b), .map (some c), .map (some d), .bool x, .bool y]
/-- Four maps: the changed words, and three without entries. -/
structure St4 (w : World) (a b c d : Nat) (D : DataW Unit) (n : Nat) : Prop where
  words : w.ownsMap Tryz.prog 35 cellR a n D
  inner : w.ownsMap Tryz.prog 35 oneR b 0 (.map [])
  own : w.ownsMap Tryz.prog 35 oneR c 0 (.map [])
  freed : w.ownsMap Tryz.prog 35 oneR d 0 (.map [])
theorem St4.below {w w' : World} {a b c d : Nat} {D : DataW Unit} {n : Nat} (h : St4 w a b c d D n) (hb : Below w.heap.size w w') : St4 w' a b c d D n :=
  ⟨(Chg.of_below (S := Fp.no) hb).map h.words (fun h => h), (Chg.of_below (S := Fp.no) hb).map h.inner (fun h => h), (Chg.of_below (S := Fp.no) hb).map h.own (fun h => h), (Chg.of_below (S := Fp.no) hb).map h.freed (fun h => h)⟩
def RetClone (w : World) (D : DataW Unit) (n : Nat) (x y : Bool) (e : Ending) (w' : World) : Prop := ∃ k, e = .returned (stV k (k + 1) (k + 2) (k + 3) x y) ∧ St4 w' k (k + 1) (k + 2) (k + 3) D n ∧ w.heap.size ≤ k ∧ Below w.heap.size w w'
theorem st4_new (W : World) {o1 o2 o3 o4 : Obj} {D : DataW Unit} {n : Nat} (h1 : ∀ W : World, (W.alloc o1).ownsMap Tryz.prog 35 cellR W.heap.size n D) (h2 : ∀ W : World, (W.alloc o2).ownsMap Tryz.prog 35 oneR W.heap.size 0 (.map [])) (h3 : ∀ W : World, (W.alloc o3).ownsMap Tryz.prog 35 oneR W.heap.size 0 (.map [])) (h4 : ∀ W : World, (W.alloc o4).ownsMap Tryz.prog 35 oneR W.heap.size 0 (.map [])) :
    St4 ((((W.alloc o1).alloc o2).alloc o3).alloc o4) W.heap.size (W.heap.size + 1) (W.heap.size + 2) (W.heap.size + 3) D n := by
  have e1 : (W.alloc o1).heap.size = W.heap.size + 1 := by simp
  have e2 : ((W.alloc o1).alloc o2).heap.size = W.heap.size + 2 := by simp
  have e3 : (((W.alloc o1).alloc o2).alloc o3).heap.size = W.heap.size + 3 := by simp
  refine ⟨(((h1 W).alloc _).alloc _).alloc _, ?_, ?_, ?_⟩
  · rw [← e1]; exact ((h2 _).alloc _).alloc _
  · rw [← e2]; exact (h3 _).alloc _
  · rw [← e3]; exact h4 _
set_option maxRecDepth 100000 in
set_option maxHeartbeats 8000000 in
theorem stClone_any (w : World) (a b c d : Nat) (x y : Bool) (D : DataW Unit) (n : Nat) (h : St4 w a b c d D n) :
    Calls Tryz.prog 54 #[stV a b c d x y] w (RetClone w D n x y) := by
  have HC1 : Hid (∀ A B, Calls Tryz.prog 122 #[.map (some a)] ((w.alloc A).alloc B) fun e w' => e = .returned (.map (some ((w.alloc A).alloc B).heap.size)) ∧ ∃ o, w' = ((w.alloc A).alloc B).alloc o ∧ ∀ W : World, (W.alloc o).ownsMap Tryz.prog 35 cellR W.heap.size n D) := fun A B => clone_cell _ ((h.words.alloc _).alloc _)
  have HC2 : Hid (∀ A B C, Calls Tryz.prog 123 #[.map (some b)] (((w.alloc A).alloc B).alloc C) fun e w' => e = .returned (.map (some (((w.alloc A).alloc B).alloc C).heap.size)) ∧ ∃ o, w' = (((w.alloc A).alloc B).alloc C).alloc o ∧ ∀ W : World, (W.alloc o).ownsMap Tryz.prog 35 oneR W.heap.size 0 (.map [])) := fun A B C => clone_u _ (((h.inner.alloc _).alloc _).alloc _)
  have HC3 : Hid (∀ A B C E, Calls Tryz.prog 124 #[.map (some c)] ((((w.alloc A).alloc B).alloc C).alloc E) fun e w' => e = .returned (.map (some ((((w.alloc A).alloc B).alloc C).alloc E).heap.size)) ∧ ∃ o, w' = ((((w.alloc A).alloc B).alloc C).alloc E).alloc o ∧ ∀ W : World, (W.alloc o).ownsMap Tryz.prog 35 oneR W.heap.size 0 (.map [])) := fun A B C E => clone_block _ ((((h.own.alloc _).alloc _).alloc _).alloc _)
  have HC4 : Hid (∀ A B C E G, Calls Tryz.prog 125 #[.map (some d)] (((((w.alloc A).alloc B).alloc C).alloc E).alloc G) fun e w' => e = .returned (.map (some (((((w.alloc A).alloc B).alloc C).alloc E).alloc G).heap.size)) ∧ ∃ o, w' = (((((w.alloc A).alloc B).alloc C).alloc E).alloc G).alloc o ∧ ∀ W : World, (W.alloc o).ownsMap Tryz.prog 35 oneR W.heap.size 0 (.map [])) := fun A B C E G => clone_ptr _ (((((h.freed.alloc _).alloc _).alloc _).alloc _).alloc _)
  clear h
  unfold stV
  go_enter Tryz.func54, Tryz.ntmps54
  go_wp2_with fail
  refine (HC1.out _ _).mono ?_
  rintro e w1 ⟨rfl, o1, rfl, h1⟩
  have H1 := Lib.hid h1
  clear h1 HC1
  go_wp2_with fail
  refine (HC2.out _ _ _).mono ?_
  rintro e w1 ⟨rfl, o2, rfl, h1⟩
  have H2 := Lib.hid h1
  clear h1 HC2
  go_wp2_with fail
  refine (HC3.out _ _ _ _).mono ?_
  rintro e w1 ⟨rfl, o3, rfl, h1⟩
  have H3 := Lib.hid h1
  clear h1 HC3
  go_wp2_with fail
  refine (HC4.out _ _ _ _ _).mono ?_
  rintro e w1 ⟨rfl, o4, rfl, h1⟩
  have H4 := Lib.hid h1
  clear h1 HC4
  go_wp2
  refine bodyPost_ret (v := stV (w.heap.size + 1 + 1) (w.heap.size + 1 + 1 + 1) (w.heap.size + 1 + 1 + 2) (w.heap.size + 1 + 1 + 3) x y) (by simp [results, Tryz.results54, go_sem, stV]) rfl ⟨w.heap.size + 1 + 1, rfl, ?_, by omega, ?_⟩
  · have h := st4_new ((w.alloc (.cells #[.map (some (w.heap.size + 1 + 1)), .map (some (w.heap.size + 1 + 1 + 1)), .map (some (w.heap.size + 1 + 1 + 1 + 1)), .map (some (w.heap.size + 1 + 1 + 1 + 1 + 1)), .bool x, .bool y] 100)).alloc (.cells #[.map (some (w.heap.size + 1 + 1)), .map (some (w.heap.size + 1 + 1 + 1)), .map (some (w.heap.size + 1 + 1 + 1 + 1)), .map (some (w.heap.size + 1 + 1 + 1 + 1 + 1)), .bool x, .bool y] 100)) H1.out H2.out H3.out H4.out
    rw [World.size_alloc, World.size_alloc] at h
    exact h
  · exact ((((((Below.refl _ w).alloc (Nat.le_refl _) _).alloc (by simp) _).alloc (by simp; omega) _).alloc (by simp; omega) _).alloc (by simp; omega) _).alloc (by simp; omega) _
end Go.Proofs.YtklpeghhgoeeiaaGreatDoor
/- tx: Savepoint. -/
namespace Go.Proofs.YtklpeghhgoeeiaaGreatDoor
open Go.RowKit Go.Maps
theorem infoMark : (Tryz.prog.info? 111).map (fun i => (i.zero, i.size, i.bytes)) = some (some (.agg #[.int .i64 0, .map none, .map none, .map none, .map none, .bool false, .bool false]), 7, 48) := by kernel_rfl
/-- As wpList_app, with where the row lies. -/
theorem wpList_app2 {P : Program} (w : World) {ops : Array Oper} {rest : List Oper} {o : Oper} {a : Act} {Q : Exit → Act → World → Prop} (s x : Operand) (t : TypeId)
    (hw : Region.wanted o (yielded ops a.tmps) = true)
    (ho : o.op = .call { callee := .builtin .append, args := #[s, x], argTypes := #[t, t] })
    (base : Nat) (e : TypeId) (i : TypeInfo) (z : Value) (size bytes : Nat) (ht : P.underlying t = some (.slice e)) (hi : P.info? e = some i) (hz : i.zero = some z)
    (hsize : i.size = size) (hby : i.bytes = bytes) (hzs : z.cells.size = size) (hsz : 0 < size)
    (v : Value) (n : Nat) (xs : List Value) (hs : a.eval s = v) (hown : w.ownsRow base e size v n xs)
    (B : Nat) (A : Option Addr) (m c : Nat) (news : List Value) (hx : a.eval x = .slice A m c) (hr : Reads w B size A m news) (h1 : ∀ u ∈ news, u.oneCell' = true)
    (h63 : n + m ≤ maxLen) (hbytes : (n + m) * bytes ≤ 140737488355328) (hbase : base ≤ w.heap.size)
    (h : ∀ A' n' c' w', n' = n + m → w'.ownsRow base e size (.slice A' n' c') n' (xs ++ news) → w.grownBy w' v.ownBlock → ((Value.slice A' n' c').ownBlock = v.ownBlock ∨ (Value.slice A' n' c').ownBlock = some w.heap.size) → wpList P ops Q rest (a.put o.dst (.slice A' n' c')) w') : wpList P ops Q (o :: rest) a w := by
  refine Go.BigFrame.wpList_want hw fun K hK => ?_
  refine wp_append_any w s x t ho base e i z size bytes ht hi hz hsize hby hzs hsz v n xs hs hown B A m c news hx hr h1 h63 hbytes hbase fun v' w' h2 h3 h4 => ?_
  obtain ⟨A', c', rfl⟩ := own_slice h2
  exact hK _ _ (h A' _ c' w' rfl h2 h3 h4)
/-- A savepoint: its number, the first of the four maps, the two flags; what the words were. -/
structure Mk where
  id : Nat
  k : Nat
  x : Bool
  y : Bool
  D : DataW Unit
  n : Nat
def Mk.cells (m : Mk) : List Value := [.int .i64 (m.id : Int), .map (some m.k), .map (some (m.k + 1)), .map (some (m.k + 2)), .map (some (m.k + 3)), .bool m.x, .bool m.y]
def mkCells (l : List Mk) : List Value := l.flatMap Mk.cells
theorem mkCells_len (l : List Mk) : (mkCells l).length = l.length * 7 := by
  induction l with
  | nil => rfl
  | cons m r ih => rw [mkCells, List.flatMap_cons, List.length_append]; unfold mkCells at ih; rw [ih]; simp [Mk.cells]; omega
theorem mkCells_snoc (l : List Mk) (m : Mk) : mkCells (l ++ [m]) = mkCells l ++ m.cells := by simp [mkCells]
/-- The savepoints in memory. -/
structure Mks (c : CX) (w : World) (S : Fp) (t : TX) (l : List Mk) : Prop where
  row : w.ownsRow c.w0.heap.size 111 7 t.marks l.length (mkCells l)
  st : ∀ m ∈ l, St4 w m.k (m.k + 1) (m.k + 2) (m.k + 3) m.D m.n
  off : ∀ m ∈ l, ∀ j, m.k ≤ j → j ≤ m.k + 3 → ¬ S j ∧ j ≠ t.words
  rowoff : ∀ b, t.marks.ownBlock = some b → ¬ S b
section
variable {c : CX} {w w' : World} {S : Fp} {t : TX} {l : List Mk}
theorem St4.lt {w : World} {k : Nat} {D : DataW Unit} {n : Nat} (h : St4 w k (k + 1) (k + 2) (k + 3) D n) : k + 3 < w.heap.size := h.freed.lt
theorem Mks.chg {Z : Fp} (h : Mks c w S t l) (hc : Chg Z w w') (hz : ∀ j, Z j → S j ∨ j = t.words ∨ ∃ ty cs, ty ≠ 111 ∧ Blk w j ty cs) (hw : ∃ n D, w.ownsMap Tryz.prog 35 cellR t.words n D) : Mks c w' S t l := by
  obtain ⟨n, D, hw⟩ := hw
  have hm : ∀ m ∈ l, ∀ j, m.k ≤ j → j ≤ m.k + 3 → ¬ Z j := fun m hm j h1 h2 hj => by
    obtain ⟨o1, o2⟩ := h.off m hm j h1 h2
    have hs := h.st m hm
    rcases hz j hj with e | e | ⟨ty, cs, _, hB⟩
    · exact o1 e
    · exact o2 e
    · have hj4 : j = m.k ∨ j = m.k + 1 ∨ j = m.k + 2 ∨ j = m.k + 3 := by omega
      rcases hj4 with rfl | rfl | rfl | rfl
      · exact map_ne_blk hs.words hB rfl
      · exact map_ne_blk hs.inner hB rfl
      · exact map_ne_blk hs.own hB rfl
      · exact map_ne_blk hs.freed hB rfl
  refine ⟨hc.own h.row fun b hb hj => ?_, fun m hm' => ?_, h.off, h.rowoff⟩
  · rcases hz b hj with e | e | ⟨ty, cs, hty, hB⟩
    · exact h.rowoff b hb e
    · exact map_ne_own hw h.row (by rw [hb, e])
    · exact own_blk_ne h.row hB (Ne.symm hty) hb
  · have hs := h.st m hm'
    exact ⟨hc.map hs.words (hm m hm' _ (by omega) (by omega)), hc.map hs.inner (hm m hm' _ (by omega) (by omega)), hc.map hs.own (hm m hm' _ (by omega) (by omega)), hc.map hs.freed (hm m hm' _ (by omega) (by omega))⟩
theorem Mks.grew {S' : Fp} (h : Mks c w S t l) (hg : Grew S S' w) : Mks c w S' t l := by
  refine ⟨h.row, h.st, fun m hm j h1 h2 => ?_, fun b hb => ?_⟩
  · have := (h.st m hm).lt
    exact ⟨hg.off ⟨by omega, (h.off m hm j h1 h2).1⟩, (h.off m hm j h1 h2).2⟩
  · exact hg.off ⟨(h.row.lt b hb).2, h.rowoff b hb⟩
theorem Mks.more_ (h : Mks c w S t l) (hb : Below w.heap.size w w') : Mks c w' S t l := by
  refine ⟨(Chg.of_below (S := Fp.no) hb).own h.row (fun _ _ h => h), fun m hm => (h.st m hm).below hb, h.off, h.rowoff⟩
/-- Only the words' place and the marks are asked of the transaction's cells. -/
theorem Mks.same (h : Mks c w S t l) {t' : TX} (hw : t'.words = t.words) (hm : t'.marks = t.marks) : Mks c w S t' l :=
  ⟨by rw [hm]; exact h.row, h.st, by rw [hw]; exact h.off, by rw [hm]; exact h.rowoff⟩
end
/-- A row of marks turned. -/
theorem TxS.rowed {c : CX} {g : Nat} {w w' : World} {S : Fp} {t : TX} {D : DataW Unit} {n : Nat} {cur : Nat → Nat} {T : Nat} (h : TxS c g w S t D n cur T) {v : Value} {base m : Nat} {xs : List Value} (hc : Chg (fun j => v.ownBlock = some j) w w') (ho : w.ownsRow base 111 7 v m xs) (hS : ∀ b, v.ownBlock = some b → ¬ S b) (hb : c.w0.heap.size ≤ base) : TxS c g w' S t D n cur T := by
  have hne : ∀ {gg : Nat} {ty : TypeId} {cs : Array Value}, Blk w gg ty cs → 111 ≠ ty → ¬ (v.ownBlock = some gg) := fun hB ht e => own_blk_ne ho hB ht e
  have hm := h.maps
  exact { h with
    base := h.base.chg hc (fun k hk e => hS k e hk) ⟨hne h.base.sys.r (by decide), hne h.base.sys.u (by decide), hne h.base.sys.h (by decide), hne h.base.sys.m (by decide)⟩ (hne h.base.blk (by decide)) (fun k hk => Nat.le_trans hb (ho.lt k hk).1)
    tx := hc.blk h.tx (hne h.tx (by decide))
    maps := hm.chg hc ⟨fun e => map_ne_own hm.words ho e.symm, fun e => map_ne_own hm.inner ho e.symm, fun e => map_ne_own hm.own ho e.symm, fun e => map_ne_own hm.freed ho e.symm, fun e => map_ne_own hm.held ho e.symm, fun e => map_ne_own hm.cover ho e.symm⟩ }
/-- What Savepoint looks at. -/
def SvS (g : Nat) (t : TX) (w' : World) : Prop := w'.cell? ⟨g, 9, none⟩ = some t.marks ∧ w'.cell? ⟨g, 10, none⟩ = some (.int .i64 (t.ids : Int)) ∧ w'.cell? ⟨g, 0, none⟩ = some (.map (some t.words)) ∧ w'.cell? ⟨g, 1, none⟩ = some (.map (some t.inner)) ∧ w'.cell? ⟨g, 2, none⟩ = some (.map (some t.own)) ∧ w'.cell? ⟨g, 3, none⟩ = some (.map (some t.freed)) ∧ w'.cell? ⟨g, 4, none⟩ = some (.bool t.outside) ∧ w'.cell? ⟨g, 5, none⟩ = some (.bool t.surplus)
theorem SvS.of {c : CX} {g : Nat} {w : World} {S : Fp} {t : TX} {D : DataW Unit} {n : Nat} {cur : Nat → Nat} {T : Nat} (h : TxS c g w S t D n cur T) : SvS g t w := ⟨h.tx.cell 9, h.tx.cell 10, h.tx.cell 0, h.tx.cell 1, h.tx.cell 2, h.tx.cell 3, h.tx.cell 4, h.tx.cell 5⟩
def RetSave (c : CX) (g : Nat) (S : Fp) (t : TX) (D : DataW Unit) (n : Nat) (cur : Nat → Nat) (T : Nat) (l : List Mk) (e : Ending) (w' : World) : Prop :=
  ∃ v k, e = .returned (.int .i64 ((t.ids + 1 : Nat) : Int)) ∧ TxS c g w' S { t with ids := t.ids + 1, marks := v } D n cur T ∧ Mks c w' S { t with ids := t.ids + 1, marks := v } (l ++ [⟨t.ids + 1, k, t.outside, t.surplus, D, n⟩])
/-- What Savepoint turns. -/
def ZS (g : Nat) (t : TX) : Fp := fun j => j = g ∨ t.marks.ownBlock = some j
def RetSaveZ (c : CX) (g : Nat) (w : World) (S : Fp) (t : TX) (D : DataW Unit) (n : Nat) (cur : Nat → Nat) (T : Nat) (l : List Mk) (e : Ending) (w' : World) : Prop :=
  ∃ v k, e = .returned (.int .i64 ((t.ids + 1 : Nat) : Int)) ∧ TxS c g w' S { t with ids := t.ids + 1, marks := v } D n cur T ∧ Mks c w' S { t with ids := t.ids + 1, marks := v } (l ++ [⟨t.ids + 1, k, t.outside, t.surplus, D, n⟩]) ∧ Chg (ZS g t) w w' ∧ (∀ b, v.ownBlock = some b → t.marks.ownBlock = some b ∨ w.heap.size ≤ b) ∧ w.heap.size ≤ k
set_option maxRecDepth 100000 in
set_option maxHeartbeats 1000000 in
theorem savepoint_z {c : CX} {g : Nat} {w : World} {S : Fp} {t : TX} {D : DataW Unit} {n : Nat} {cur : Nat → Nat} {T : Nat} {l : List Mk} (h : TxS c g w S t D n cur T) (hop : t.open_ = true) (hmk : Mks c w S t l) (hid : t.ids ≤ 1000) (hll : l.length ≤ 1000) :
    Calls Tryz.prog 14 #[.pointer (some ⟨g, 0, none⟩)] w (RetSaveZ c g w S t D n cur T l) := by
  obtain ⟨i0, hi0, hz0, hz1, hz2⟩ := info_parts infoMark
  obtain ⟨A, cc, hmv⟩ := own_slice hmk.row
  have u1 : wrap64 ((t.ids : Int) + 1) = ((t.ids + 1 : Nat) : Int) := by unfold wrap64; omega
  have c8 : w.cell? ⟨g, 8, none⟩ = some (.bool true) := (h.tx.cell 8).trans (by simp [txCells, hop])
  have c10 : w.cell? ⟨g, 10, none⟩ = some (.int .i64 (t.ids : Int)) := h.tx.cell 10
  have z10 : w.frozen? ⟨g, 10, none⟩ = false := h.tx.frozen 10
  have ei : ((t.ids + 1 : Nat) : Int) = (t.ids : Int) + 1 := by omega
  have HX1 := Lib.hid (h.set 10 (.int .i64 ((t.ids + 1 : Nat) : Int)) { t with ids := t.ids + 1 } rfl ⟨rfl, rfl, rfl, rfl, rfl, rfl⟩)
  have HM1 := Lib.hid ((hmk.chg ((Chg.refl (fun j => j = g) w).setCell (p := ⟨g, 10, none⟩) (.inl rfl) (.int .i64 ((t.ids + 1 : Nat) : Int))) (fun j hj => .inr (.inr ⟨_, _, by decide, hj ▸ h.tx⟩)) ⟨_, _, h.maps.words⟩).same (t' := { t with ids := t.ids + 1 }) rfl rfl)
  rw [ei] at HX1 u1 HM1
  have HZ1 : Hid (Chg (ZS g t) w (w.setCell ⟨g, 10, none⟩ (.int .i64 ((t.ids : Int) + 1)))) := Lib.hid ((Chg.refl (ZS g t) w).setCell (p := ⟨g, 10, none⟩) (.inl (.inl rfl)) _)
  have HLW : Hid (w.heap.size = (w.setCell ⟨g, 10, none⟩ (.int .i64 ((t.ids : Int) + 1))).heap.size) := Lib.hid (by simp)
  have hlg : g < w.heap.size := h.tx.lt
  have HSn : Hid (∀ k, w.heap.size ≤ k → ¬ S k) := fun k hk hs => by have := h.base.dev.lt _ hs; omega
  have HTw : Hid (t.words < w.heap.size) := h.maps.words.lt
  have HNw : Hid (c.w0.heap.size ≤ w.heap.size) := h.base.below.size
  clear h hop hmk
  go_enter Tryz.func14, Tryz.ntmps14
  go_wp2
  generalize w.setCell ⟨g, 10, none⟩ (.int .i64 ((t.ids : Int) + 1)) = W at *
  generalize ht' : ({ t with ids := t.ids + 1 } : TX) = t1 at *
  have HT1 : Hid (t1.ids = t.ids + 1 ∧ t1.marks = t.marks ∧ t1.words = t.words ∧ t1.outside = t.outside ∧ t1.surplus = t.surplus) := Lib.hid (by rw [← ht']; exact ⟨rfl, rfl, rfl, rfl, rfl⟩)
  have HT2 := Lib.hid ht'
  have HMV := Lib.hid hmv
  clear ht' hmv
  clear c8 c10 z10
  have HS0 : Hid (SvS g t1 W.drew) := Lib.hid (show SvS g t1 W from SvS.of HX1.out)
  have HCl := Lib.hid (stClone_any W.drew t1.words t1.inner t1.own t1.freed t1.outside t1.surplus D n ⟨HX1.out.maps.words, HX1.out.maps.inner, HX1.out.maps.own, HX1.out.maps.freed⟩)
  refine wp_region_script (SvS g t1) 17 [(true, 0), (true, 1), (true, 2), (true, 3), (true, 4), (true, 5), (true, 6), (true, 7), (true, 8), (true, 9), (true, 10), (true, 11), (true, 12), (false, 13), (false, 14), (false, 15), (false, 16)] (by kernel_rfl) (by kernel_rfl) HS0.out ?_
  refine wpScript_take (.pointer (some ⟨g, 0, none⟩)) (by rfl) (by rfl) (fun w' hS => ?_) ?_
  · go_simp
  simp only [List.getElem_toArray, List.getElem_cons_zero, Act.put, List.setIfInBounds_toArray, List.set_cons_zero, List.set_cons_succ]
  refine wpScript_take (.pointer (some ⟨g, 0, none⟩)) (by rfl) (by rfl) (fun w' hS => ?_) ?_
  · go_simp
  simp only [List.getElem_toArray, List.getElem_cons_zero, List.getElem_cons_succ, Act.put, List.setIfInBounds_toArray, List.set_cons_zero, List.set_cons_succ]
  refine wpScript_take (.pointer (some ⟨g, 0, none⟩)) (by rfl) (by rfl) (fun w' hS => ?_) ?_
  · go_simp
  simp only [List.getElem_toArray, List.getElem_cons_zero, List.getElem_cons_succ, Act.put, List.setIfInBounds_toArray, List.set_cons_zero, List.set_cons_succ]
  refine wpScript_take (.pointer (some ⟨g, 9, none⟩)) (by rfl) (by rfl) (fun w' hS => ?_) ?_
  · go_simp
  simp only [List.getElem_toArray, List.getElem_cons_zero, List.getElem_cons_succ, Act.put, List.setIfInBounds_toArray, List.set_cons_zero, List.set_cons_succ]
  refine wpScript_take (t1.marks) (by rfl) (by rfl) (fun w' hS => ?_) ?_
  · have f1 := hS.1
    go_simp
  simp only [List.getElem_toArray, List.getElem_cons_zero, List.getElem_cons_succ, Act.put, List.setIfInBounds_toArray, List.set_cons_zero, List.set_cons_succ]
  refine wpScript_take (.pointer (some ⟨g, 0, none⟩)) (by rfl) (by rfl) (fun w' hS => ?_) ?_
  · go_simp
  simp only [List.getElem_toArray, List.getElem_cons_zero, List.getElem_cons_succ, Act.put, List.setIfInBounds_toArray, List.set_cons_zero, List.set_cons_succ]
  refine wpScript_take (.pointer (some ⟨g, 0, none⟩)) (by rfl) (by rfl) (fun w' hS => ?_) ?_
  · go_simp
  simp only [List.getElem_toArray, List.getElem_cons_zero, List.getElem_cons_succ, Act.put, List.setIfInBounds_toArray, List.set_cons_zero, List.set_cons_succ]
  refine wpScript_take (.pointer (some ⟨g, 10, none⟩)) (by rfl) (by rfl) (fun w' hS => ?_) ?_
  · go_simp
  simp only [List.getElem_toArray, List.getElem_cons_zero, List.getElem_cons_succ, Act.put, List.setIfInBounds_toArray, List.set_cons_zero, List.set_cons_succ]
  refine wpScript_take (.int .i64 (t1.ids : Int)) (by rfl) (by rfl) (fun w' hS => ?_) ?_
  · have f1 := hS.2.1
    go_simp
  simp only [List.getElem_toArray, List.getElem_cons_zero, List.getElem_cons_succ, Act.put, List.setIfInBounds_toArray, List.set_cons_zero, List.set_cons_succ]
  refine wpScript_take (.pointer (some ⟨g, 0, none⟩)) (by rfl) (by rfl) (fun w' hS => ?_) ?_
  · go_simp
  simp only [List.getElem_toArray, List.getElem_cons_zero, List.getElem_cons_succ, Act.put, List.setIfInBounds_toArray, List.set_cons_zero, List.set_cons_succ]
  refine wpScript_take (.pointer (some ⟨g, 0, none⟩)) (by rfl) (by rfl) (fun w' hS => ?_) ?_
  · go_simp
  simp only [List.getElem_toArray, List.getElem_cons_zero, List.getElem_cons_succ, Act.put, List.setIfInBounds_toArray, List.set_cons_zero, List.set_cons_succ]
  refine wpScript_take (.pointer (some ⟨g, 0, none⟩)) (by rfl) (by rfl) (fun w' hS => ?_) ?_
  · go_simp
  simp only [List.getElem_toArray, List.getElem_cons_zero, List.getElem_cons_succ, Act.put, List.setIfInBounds_toArray, List.set_cons_zero, List.set_cons_succ]
  refine wpScript_take (stV t1.words t1.inner t1.own t1.freed t1.outside t1.surplus) (by rfl) (by rfl) (fun w' hS => ?_) ?_
  · (obtain ⟨_, _, f0, f1, f2, f3, f4, f5⟩ := hS; unfold stV)
    go_simp
  simp only [List.getElem_toArray, List.getElem_cons_zero, List.getElem_cons_succ, Act.put, List.setIfInBounds_toArray, List.set_cons_zero, List.set_cons_succ]
  refine wpScript_do (by rfl) ?_
  go_wp2_with fail
  refine HCl.out.mono ?_
  rintro e W1 ⟨k, rfl, hst, hk, hb1⟩
  have HX2 := Lib.hid (HX1.out.more_ (w' := W1) ((Below.refl _ W).drew.trans hb1))
  have HM2 := Lib.hid (HM1.out.more_ (w' := W1) ((Below.refl _ W).drew.trans hb1))
  have HZ2 := Lib.hid (HZ1.out.below (w2 := W1) ((Below.refl _ W).drew.trans hb1))
  have HSt := Lib.hid hst
  have HK := Lib.hid (show w.heap.size ≤ k by have := HLW.out; have h2 : W.heap.size ≤ k := hk; omega)
  have HL1 : Hid (w.heap.size ≤ W1.heap.size) := Lib.hid (by have := HLW.out; have h2 : W.heap.size ≤ W1.heap.size := hb1.size; omega)
  have HS1 := Lib.hid (SvS.of HX2.out)
  clear hst hk hb1 HCl HS0 HX1 HM1
  unfold stV
  go_wp2_with fail
  refine ⟨HS1.out, ?_⟩
  refine wpScript_do (by rfl) ?_
  go_wp2_with fail
  refine ⟨HS1.out, ?_⟩
  refine wpScript_do (by rfl) ?_
  go_wp2_with fail
  have HX3 := Lib.hid (HX2.out.more_ ((Below.refl _ W1).alloc (Nat.le_refl _) (.cells (⟨t1.ids, k, t1.outside, t1.surplus, D, n⟩ : Mk).cells.toArray 111)))
  have HM3 := Lib.hid (HM2.out.more_ ((Below.refl _ W1).alloc (Nat.le_refl _) (.cells (⟨t1.ids, k, t1.outside, t1.surplus, D, n⟩ : Mk).cells.toArray 111)))
  have HSt3 := Lib.hid (HSt.out.below ((Below.refl _ W1).alloc (Nat.le_refl _) (.cells (⟨t1.ids, k, t1.outside, t1.surplus, D, n⟩ : Mk).cells.toArray 111)))
  have HZ3 := Lib.hid (HZ2.out.alloc (.cells (⟨t1.ids, k, t1.outside, t1.surplus, D, n⟩ : Mk).cells.toArray 111))
  have HR3 := Lib.hid (rowN_reads W1 (⟨t1.ids, k, t1.outside, t1.surplus, D, n⟩ : Mk).cells 1 7 111 _ rfl rfl)
  have HL3 : Hid (w.heap.size + 1 ≤ (W1.alloc (.cells (⟨t1.ids, k, t1.outside, t1.surplus, D, n⟩ : Mk).cells.toArray 111)).heap.size) := Lib.hid (by have := HL1.out; simp; omega)
  have HW3 : Hid (W1.alloc (.cells (⟨t1.ids, k, t1.outside, t1.surplus, D, n⟩ : Mk).cells.toArray 111) = W1.alloc (.cells #[.int .i64 (t1.ids : Int), .map (some k), .map (some (k + 1)), .map (some (k + 2)), .map (some (k + 3)), .bool t1.outside, .bool t1.surplus] 111)) := Lib.hid rfl
  rw [← HW3.out]
  generalize W1.alloc (.cells (⟨t1.ids, k, t1.outside, t1.surplus, D, n⟩ : Mk).cells.toArray 111) = W3 at *
  clear HW3 HX2 HM2 HSt HS1
  refine ⟨SvS.of HX3.out, ?_⟩
  refine wpScript_do (by rfl) ?_
  refine wpList_app2 _ (.tmp 17) (.tmp 28) 102 rfl rfl c.w0.heap.size 111 i0 _ 7 48 Tryz.underlying102 hi0 hz0 hz1 hz2 rfl (by omega) t1.marks l.length (mkCells l) rfl HM3.out.row (W1.heap.size + 1) (some ⟨W1.heap.size, 0, none⟩) 1 1 (⟨t1.ids, k, t1.outside, t1.surplus, D, n⟩ : Mk).cells rfl HR3.out (by intro u hu; simp [Mk.cells] at hu; rcases hu with rfl | rfl | rfl | rfl | rfl | rfl | rfl <;> rfl) (by unfold maxLen; omega) (by omega) (by have := HL3.out; have := HNw.out; omega) ?_
  intro A3 n3 c3 w8 hn3 ho3 hg3 hb3
  have hc3 : Chg (fun j => t1.marks.ownBlock = some j) W3 w8 := (Chg.refl _ W3).grown hg3 (fun j e => .inl e)
  have HZ8 := Lib.hid (HZ3.out.grown hg3 (fun j e => .inl (.inr (HT1.out.2.1 ▸ e))))
  have HOB : Hid (∀ b, (Value.slice A3 n3 c3).ownBlock = some b → t.marks.ownBlock = some b ∨ w.heap.size ≤ b) := Lib.hid (fun b hb => by
    rcases hb3 with e | e
    · exact .inl (by rw [← HT1.out.2.1]; exact e.symm.trans hb)
    · rw [e] at hb
      injection hb with hb
      have := HL3.out
      exact .inr (by omega))
  have HX8 := Lib.hid (HX3.out.rowed hc3 HM3.out.row HM3.out.rowoff (Nat.le_refl _))
  have HSt8 : Hid (St4 w8 k (k + 1) (k + 2) (k + 3) D n) := Lib.hid (by
    have hs := HSt3.out
    exact ⟨hc3.map hs.words (fun e => map_ne_own hs.words HM3.out.row e.symm), hc3.map hs.inner (fun e => map_ne_own hs.inner HM3.out.row e.symm), hc3.map hs.own (fun e => map_ne_own hs.own HM3.out.row e.symm), hc3.map hs.freed (fun e => map_ne_own hs.freed HM3.out.row e.symm)⟩)
  have HMs8 : Hid (∀ m ∈ l, St4 w8 m.k (m.k + 1) (m.k + 2) (m.k + 3) m.D m.n) := Lib.hid (fun m hm => by
    have hs := HM3.out.st m hm
    exact ⟨hc3.map hs.words (fun e => map_ne_own hs.words HM3.out.row e.symm), hc3.map hs.inner (fun e => map_ne_own hs.inner HM3.out.row e.symm), hc3.map hs.own (fun e => map_ne_own hs.own HM3.out.row e.symm), hc3.map hs.freed (fun e => map_ne_own hs.freed HM3.out.row e.symm)⟩)
  have HMf : Hid (∀ m ∈ l, ∀ j, m.k ≤ j → j ≤ m.k + 3 → ¬ S j ∧ j ≠ t1.words) := Lib.hid HM3.out.off
  have HO8 := Lib.hid ho3
  have HRo8 : Hid (∀ b, (Value.slice A3 n3 c3).ownBlock = some b → ¬ S b) := Lib.hid (fun b hb hs => by
    rcases hb3 with e | e
    · exact HM3.out.rowoff b (e.symm.trans hb) hs
    · rw [e] at hb
      injection hb with hb
      have := HX3.out.base.dev.lt b hs
      omega)
  have HN8 : Hid (n3 = l.length + 1) := Lib.hid hn3
  clear hc3 ho3 hg3 hb3 hn3 HX3 HM3 HSt3 HR3
  have c9 : w8.cell? ⟨g, 9, none⟩ = some t1.marks := HX8.out.tx.cell 9
  have z9 : w8.frozen? ⟨g, 9, none⟩ = false := HX8.out.tx.frozen 9
  refine ⟨SvS.of HX8.out, ?_⟩
  show wpList _ _ _ _ _ _
  simp only [List.drop_succ_cons, List.drop_zero]
  have HX9 := Lib.hid (HX8.out.set 9 (.slice A3 n3 c3) { t1 with marks := .slice A3 n3 c3 } rfl ⟨rfl, rfl, rfl, rfl, rfl, rfl⟩)
  have hZ : Chg (fun j => j = g) w8 (w8.setCell ⟨g, 9, none⟩ (.slice A3 n3 c3)) := (Chg.refl (fun j => j = g) w8).setCell (p := ⟨g, 9, none⟩) (.inl rfl) _
  have HZ9 := Lib.hid (HZ8.out.setCell (p := ⟨g, 9, none⟩) (.inl (.inl rfl)) (.slice A3 n3 c3))
  have HM9 : Hid (Mks c (w8.setCell ⟨g, 9, none⟩ (.slice A3 n3 c3)) S { t1 with marks := .slice A3 n3 c3 } (l ++ [⟨t1.ids, k, t1.outside, t1.surplus, D, n⟩])) := Lib.hid (by
    have hg : ∀ {b nn : Nat} {R} {DD : DataW Unit}, w8.ownsMap Tryz.prog 35 R b nn DD → ¬ (b = g) := fun hm e => map_ne_blk hm HX8.out.tx e
    have hst : ∀ m : Mk, St4 w8 m.k (m.k + 1) (m.k + 2) (m.k + 3) m.D m.n → St4 (w8.setCell ⟨g, 9, none⟩ (.slice A3 n3 c3)) m.k (m.k + 1) (m.k + 2) (m.k + 3) m.D m.n := fun m hs => ⟨hZ.map hs.words (hg hs.words), hZ.map hs.inner (hg hs.inner), hZ.map hs.own (hg hs.own), hZ.map hs.freed (hg hs.freed)⟩
    refine ⟨?_, fun m hm => ?_, fun m hm j h1 h2 => ?_, HRo8.out⟩
    · rw [mkCells_snoc, List.length_append]
      have hn8 := HN8.out
      subst hn8
      exact hZ.own HO8.out (fun b hb e => own_blk_ne HO8.out HX8.out.tx (by decide) (e ▸ hb))
    · rcases List.mem_append.1 hm with h | h
      · exact hst m (HMs8.out m h)
      · simp only [List.mem_cons, List.not_mem_nil, or_false] at h
        subst h
        exact hst ⟨t1.ids, k, t1.outside, t1.surplus, D, n⟩ HSt8.out
    · rcases List.mem_append.1 hm with h | h
      · exact HMf.out m h j h1 h2
      · simp only [List.mem_cons, List.not_mem_nil, or_false] at h
        subst h
        have h1 : k ≤ j := h1
        have := HK.out
        have hw := HTw.out
        have e3 := HT1.out.2.2.1
        exact ⟨HSn.out j (by omega), by show j ≠ t1.words; omega⟩)
  clear hZ
  go_wp2
  refine NoPanic.normal ?_
  have c10 : (w8.setCell ⟨g, 9, none⟩ (.slice A3 n3 c3)).cell? ⟨g, 10, none⟩ = some (.int .i64 (t1.ids : Int)) := HX9.out.tx.cell 10
  go_wp2
  go_ret
  have ht := HT2.out
  subst ht
  exact ⟨_, k, rfl, HX9.out, HM9.out, HZ9.out, HOB.out, HK.out⟩
theorem savepoint_any {c : CX} {g : Nat} {w : World} {S : Fp} {t : TX} {D : DataW Unit} {n : Nat} {cur : Nat → Nat} {T : Nat} {l : List Mk} (h : TxS c g w S t D n cur T) (hop : t.open_ = true) (hmk : Mks c w S t l) (hid : t.ids ≤ 1000) (hll : l.length ≤ 1000) :
    Calls Tryz.prog 14 #[.pointer (some ⟨g, 0, none⟩)] w (RetSave c g S t D n cur T l) :=
  (savepoint_z h hop hmk hid hll).mono (fun _ _ ⟨v, k, h1, h2, h3, _⟩ => ⟨v, k, h1, h2, h3⟩)
end Go.Proofs.YtklpeghhgoeeiaaGreatDoor
