/- The walks and laws that the claim leans on, part 21: each part says ahead of its lines what it holds. -/
import Derived.Test.YtklpeghhgoeeiaaGreatDoorJat
/- tx: Err; Commit in mode Undo, without own blocks. -/
namespace Go.Proofs.YtklpeghhgoeeiaaGreatDoor
open Go.RowKit Go.Maps Go.Sort Go.Shelf
/-- The error of a transaction over a memory without error. -/
def errT (t : TX) : Int := if t.outside then 2 else if t.surplus then 9 else 0
set_option maxRecDepth 100000 in
set_option maxHeartbeats 1000000 in
theorem xErr_any {c : CX} {g : Nat} {w : World} {S : Fp} {t : TX} {D : DataW Unit} {n : Nat} {cur : Nat → Nat} {T : Nat} (h : TxS c g w S t D n cur T) :
    Calls Tryz.prog 22 #[.pointer (some ⟨g, 0, none⟩)] w fun e w' => e = .returned (.int .i64 (errT t)) ∧ w = w' := by
  have c6 : w.cell? ⟨g, 6, none⟩ = some (.pointer (some ⟨c.x.m, 0, none⟩)) := h.tx.cell 6
  have m0 : w.cell? ⟨c.x.m, 0, none⟩ = some (.pointer (some ⟨c.a.th 0, 0, none⟩)) := h.base.sys.m.cell 0
  have c4 : w.cell? ⟨g, 4, none⟩ = some (.bool t.outside) := h.tx.cell 4
  have c5 : w.cell? ⟨g, 5, none⟩ = some (.bool t.surplus) := h.tx.cell 5
  have HE := Lib.hid (err_dev h.base.dev (j := 0) (by omega))
  clear h
  unfold errT
  generalize t.outside = bo at *
  generalize t.surplus = bs at *
  go_enter Tryz.func22, Tryz.ntmps22
  go_wp2_with fail
  refine HE.out.mono ?_
  rintro e w1 ⟨rfl, rfl⟩
  cases bo
  · cases bs
    · go_wp2
      go_ret
      exact ⟨rfl, rfl⟩
    · go_wp2
      go_ret
      exact ⟨rfl, rfl⟩
  · go_wp2
    go_ret
    exact ⟨rfl, rfl⟩
/-- What the contents' program looks at. -/
def CmS (g m th : Nat) (w' : World) : Prop := w'.cell? ⟨g, 6, none⟩ = some (.pointer (some ⟨m, 0, none⟩)) ∧ w'.cell? ⟨m, 0, none⟩ = some (.pointer (some ⟨th, 0, none⟩))
def RetCmt (c : CX) (g : Nat) (t : TX) (cur : Nat → Nat) (T : Nat) (v : Value) (e : Ending) (w' : World) : Prop := ∃ S', e = .returned v ∧ TxE c g w' S' t cur T
set_option maxRecDepth 100000 in
set_option maxHeartbeats 2000000 in
theorem commit_undo {c : CX} {g : Nat} {w : World} {S : Fp} {t : TX} {D : DataW Unit} {n : Nat} {cur : Nat → Nat} {T : Nat} (h : TxS c g w S t D n cur T) (hop : t.open_ = true) (hmode : t.mode = 2) (hout : t.outside = false) (hsur : t.surplus = false) (hpl : AllIn D) (hsz : Maps.size D ≤ 96) {ws : List (Nat × Nat)} (hl : LogU cur 30 ws) (hw : EntO ws) (hT : T ≤ 1000000) (hcv : ∀ i, cur i < 18446744073709551616) :
    Calls Tryz.prog 17 #[.pointer (some ⟨g, 0, none⟩)] w (RetCmt c g t (cmC cur ws) (T + 80) (.int .i64 0)) := by
  have c8 : w.cell? ⟨g, 8, none⟩ = some (.bool true) := (h.tx.cell 8).trans (by simp [txCells, hop])
  have HE := Lib.hid (xErr_any h)
  have he0 : errT t = 0 := by simp [errT, hout, hsur]
  rw [he0] at HE
  have d0 : w.cell? ⟨g, 0, none⟩ = some (.map (some t.words)) := h.tx.cell 0
  have d1 : w.cell? ⟨g, 1, none⟩ = some (.map (some t.inner)) := h.tx.cell 1
  have d2 : w.cell? ⟨g, 2, none⟩ = some (.map (some t.own)) := h.tx.cell 2
  have d3 : w.cell? ⟨g, 3, none⟩ = some (.map (some t.freed)) := h.tx.cell 3
  have d4 : w.cell? ⟨g, 4, none⟩ = some (.bool false) := (h.tx.cell 4).trans (by simp [txCells, hout])
  have d5 : w.cell? ⟨g, 5, none⟩ = some (.bool false) := (h.tx.cell 5).trans (by simp [txCells, hsur])
  have HBl := Lib.hid (blocks_none w t.words t.inner t.own t.freed false false true h.maps.own)
  have HOu := Lib.hid hout
  have HSu := Lib.hid hsur
  have HX := Lib.hid h
  have HMo := Lib.hid hmode
  clear h he0 hout hsur hop hmode
  unfold stV at HBl
  go_enter Tryz.func17, Tryz.ntmps17
  go_wp2_with (first
    | (go_at_call 22; refine HE.out.mono ?_; rintro e w1 ⟨rfl, rfl⟩)
    | (go_at_call 62; refine stop ?_)
    | go_in)
  unfold Stop
  refine HBl.out.mono ?_
  rintro e W1 ⟨rfl, hb1⟩
  have HX1 := Lib.hid (HX.out.more_ hb1)
  have HB1 := Lib.hid hb1
  have HSo := Lib.hid (sortP0 W1 t.freed HX1.out.maps.freed)
  have k3 : W1.cell? ⟨g, 3, none⟩ = some (.map (some t.freed)) := HX1.out.tx.cell 3
  clear hb1 c8 d0 d1 d2 d3 d4 d5 HBl HE
  go_wp2_with fail
  refine wp_loop_rounds 1 ?_
  rw [rounds_succ]
  go_wp2_with fail
  refine (keysPtr_any _ _).mono ?_
  rintro e w1 ⟨rfl, rfl⟩
  go_wp2_with fail
  refine HSo.out.mono ?_
  rintro e W2 ⟨⟨A2, c2, rfl⟩, hb2⟩
  have HB2 := Lib.hid (HB1.out.trans ((((Below.refl _ W1).alloc (Nat.le_refl _) _).trans (hb2.mono (by simp))).mono HB1.out.size))
  have HX2 := Lib.hid (HX.out.more_ HB2.out)
  have HAc := Lib.hid (actions_none HX2.out.base)
  have k6 : W2.cell? ⟨g, 6, none⟩ = some (.pointer (some ⟨c.x.m, 0, none⟩)) := HX2.out.tx.cell 6
  have m3 : W2.cell? ⟨c.x.m, 3, none⟩ = some (.pointer (some ⟨c.x.h, 0, none⟩)) := HX2.out.base.sys.m.cell 3
  clear hb2 k3 HSo HX1 HB1
  go_wp2_with fail
  refine wp_loop_rounds 1 ?_
  rw [rounds_succ]
  go_wp2_with fail
  refine HAc.out.mono ?_
  rintro e W3 ⟨rfl, hb3⟩
  have HB3 := Lib.hid (HB2.out.trans (hb3.mono HB2.out.size))
  have HX3 := Lib.hid (HX.out.more_ HB3.out)
  have j0 : W3.cell? ⟨g, 0, none⟩ = some (.map (some t.words)) := HX3.out.tx.cell 0
  have hlen : ∀ ty, (Builtin.len_ #[95] ty #[.map (some t.words)]).run Tryz.prog W3 = .ok (.int .i64 (Maps.size D)) W3 := fun ty => HX3.out.maps.words.len Tryz.underlying95 ty
  have e96 : decide ((96 : Int) < (Maps.size D : Int)) = false := decide_eq_false (by omega)
  clear hb3 k6 m3 HAc HX2 HB2
  go_wp2_with fail
  refine wp_loop_rounds 1 ?_
  rw [rounds_succ]
  go_wp2_with fail
  have HS0 : Hid (CmS g c.x.m (c.a.th 0) W3.drew) := Lib.hid (show CmS g c.x.m (c.a.th 0) W3 from ⟨HX3.out.tx.cell 6, HX3.out.base.sys.m.cell 0⟩)
  refine wp_region_script (CmS g c.x.m (c.a.th 0)) 10 [(true, 0), (true, 2), (true, 3), (true, 4), (true, 5), (true, 6), (true, 7), (true, 8), (true, 9), (false, 1)] (by kernel_rfl) (by kernel_rfl) HS0.out ?_
  refine wpScript_take (.slice none 0 0) (by rfl) (by rfl) (fun w' hS => ?_) ?_
  · go_simp
  simp only [List.getElem_toArray, List.getElem_cons_zero, Act.put, List.setIfInBounds_toArray, List.set_cons_zero, List.set_cons_succ]
  refine wpScript_take (.pointer (some ⟨g, 0, none⟩)) (by rfl) (by rfl) (fun w' hS => ?_) ?_
  · go_simp
  simp only [List.getElem_toArray, List.getElem_cons_zero, List.getElem_cons_succ, Act.put, List.setIfInBounds_toArray, List.set_cons_zero, List.set_cons_succ]
  refine wpScript_take (.pointer (some ⟨g, 0, none⟩)) (by rfl) (by rfl) (fun w' hS => ?_) ?_
  · go_simp
  simp only [List.getElem_toArray, List.getElem_cons_zero, List.getElem_cons_succ, Act.put, List.setIfInBounds_toArray, List.set_cons_zero, List.set_cons_succ]
  refine wpScript_take (.pointer (some ⟨g, 6, none⟩)) (by rfl) (by rfl) (fun w' hS => ?_) ?_
  · go_simp
  simp only [List.getElem_toArray, List.getElem_cons_zero, List.getElem_cons_succ, Act.put, List.setIfInBounds_toArray, List.set_cons_zero, List.set_cons_succ]
  refine wpScript_take (.pointer (some ⟨c.x.m, 0, none⟩)) (by rfl) (by rfl) (fun w' hS => ?_) ?_
  · have f1 := hS.1
    go_simp
  simp only [List.getElem_toArray, List.getElem_cons_zero, List.getElem_cons_succ, Act.put, List.setIfInBounds_toArray, List.set_cons_zero, List.set_cons_succ]
  refine wpScript_take (.pointer (some ⟨c.x.m, 0, none⟩)) (by rfl) (by rfl) (fun w' hS => ?_) ?_
  · go_simp
  simp only [List.getElem_toArray, List.getElem_cons_zero, List.getElem_cons_succ, Act.put, List.setIfInBounds_toArray, List.set_cons_zero, List.set_cons_succ]
  refine wpScript_take (.pointer (some ⟨c.x.m, 0, none⟩)) (by rfl) (by rfl) (fun w' hS => ?_) ?_
  · go_simp
  simp only [List.getElem_toArray, List.getElem_cons_zero, List.getElem_cons_succ, Act.put, List.setIfInBounds_toArray, List.set_cons_zero, List.set_cons_succ]
  refine wpScript_take (.pointer (some ⟨c.a.th 0, 0, none⟩)) (by rfl) (by rfl) (fun w' hS => ?_) ?_
  · have f1 := hS.2
    go_simp
  simp only [List.getElem_toArray, List.getElem_cons_zero, List.getElem_cons_succ, Act.put, List.setIfInBounds_toArray, List.set_cons_zero, List.set_cons_succ]
  refine wpScript_take (memV c.a) (by rfl) (by rfl) (fun w' hS => ?_) ?_
  · unfold memV
    go_simp
  simp only [List.getElem_toArray, List.getElem_cons_zero, List.getElem_cons_succ, Act.put, List.setIfInBounds_toArray, List.set_cons_zero, List.set_cons_succ]
  have HSt := Lib.hid (stores_none none 0 W3.drew)
  refine wpScript_do (by rfl) ?_
  go_wp2_with fail
  refine HSt.out.mono ?_
  rintro e W4 ⟨A4, m4, c4, rfl, rfl, ho4, hb4⟩
  have hb34 : Below W3.heap.size W3 W4 := (Below.refl _ W3).drew.trans hb4
  have HB4 := Lib.hid (HB3.out.trans (hb34.mono HB3.out.size))
  have HX4 := Lib.hid (HX.out.more_ HB4.out)
  have HRn := Lib.hid (run_nil HX4.out.base.dev A4 c4 _ ho4 HX3.out.base.dev.lt (by omega))
  clear ho4 hb4 hb34 HSt HS0 HX3 HB3 j0 hlen
  go_wp2_with fail
  refine ⟨⟨HX4.out.tx.cell 6, HX4.out.base.sys.m.cell 0⟩, ?_⟩
  show wpList _ _ _ _ _ _
  simp only [List.drop_succ_cons, List.drop_zero]
  go_wp2_with fail
  refine HRn.out.mono ?_
  intro e W5 h5
  obtain ⟨rfl, hi5⟩ := StI.step HX4.out (Chg.of_below (S := S) HB4.out) (Grew.refl _ _) h5
  have HI5 := Lib.hid hi5
  obtain ⟨S5, hx5, hc5, hg5⟩ := hi5
  have HX5 := Lib.hid hx5
  have HC5 := Lib.hid hc5
  have HG5 := Lib.hid hg5
  have HAp := Lib.hid (apply_undo hx5 HMo.out hpl hl hw hT hcv)
  clear h5 hx5 hc5 hg5 HRn HX4 HB4
  go_wp2
  refine NoPanic.normal ?_
  go_wp2_with fail
  refine HAp.out.mono ?_
  rintro e W6 ⟨rfl, S6, hx6, hc6, hg6⟩
  have HX6 := Lib.hid hx6
  have n0 : W6.cell? ⟨g, 0, none⟩ = some (.map (some t.words)) := hx6.tx.cell 0
  have n1 : W6.cell? ⟨g, 1, none⟩ = some (.map (some t.inner)) := hx6.tx.cell 1
  have n2 : W6.cell? ⟨g, 2, none⟩ = some (.map (some t.own)) := hx6.tx.cell 2
  have n3 : W6.cell? ⟨g, 3, none⟩ = some (.map (some t.freed)) := hx6.tx.cell 3
  have n4 : W6.cell? ⟨g, 4, none⟩ = some (.bool false) := (hx6.tx.cell 4).trans (by simp [txCells, HOu.out])
  have n5 : W6.cell? ⟨g, 5, none⟩ = some (.bool false) := (hx6.tx.cell 5).trans (by simp [txCells, HSu.out])
  have HBl := Lib.hid (blocks_none W6 t.words t.inner t.own t.freed false false false hx6.maps.own)
  clear hx6 hc6 hg6 HAp HX5 HC5 HG5 HI5
  unfold stV at HBl
  go_wp2_with fail
  refine HBl.out.mono ?_
  rintro e W7 ⟨rfl, hb7⟩
  have HX7 := Lib.hid (HX6.out.more_ hb7)
  have p6 : W7.cell? ⟨g, 6, none⟩ = some (.pointer (some ⟨c.x.m, 0, none⟩)) := HX7.out.tx.cell 6
  have p3 : W7.cell? ⟨c.x.m, 3, none⟩ = some (.pointer (some ⟨c.x.h, 0, none⟩)) := HX7.out.base.sys.m.cell 3
  have HEn := Lib.hid (end_any HX7.out)
  clear hb7 HX6 n0 n1 n2 n3 n4 n5 HBl
  go_wp2_with fail
  refine wp_loop_rounds 1 ?_
  rw [rounds_succ]
  go_wp2_with (first
    | (go_at_call 69; refine (settle_none _ _).mono ?_; rintro e w1 ⟨rfl, rfl⟩)
    | (go_at_call 70; refine stop ?_))
  unfold Stop
  refine HEn.out.mono ?_
  rintro e W8 ⟨rfl, hx8⟩
  have HX8 := Lib.hid hx8
  clear hx8
  go_wp2
  go_ret
  exact ⟨S6, rfl, HX8.out⟩
end Go.Proofs.YtklpeghhgoeeiaaGreatDoor
/- tx, mode Undo, plain: the words, the log and the changed words agree. -/
namespace Go.Proofs.YtklpeghhgoeeiaaGreatDoor
open Go.RowKit Go.Maps Go.Shelf
/-- A word out of the undo log. -/
def outLog (i : Nat) : Prop := i < 240 ∨ 448 ≤ i
theorem OffOk.div {o : Nat} (h : OffOk 152 30 26 o) : outLog (o / 8) := by
  have := h.out; have := h.al
  unfold outLog; omega
theorem OffOk.inj {o o' : Nat} (h : OffOk 152 30 26 o) (h' : OffOk 152 30 26 o') (e : o / 8 = o' / 8) : o = o' := by
  have := h.al; have := h'.al; omega
theorem wrS_other : ∀ (l : List (Nat × Nat)) (cur : Nat → Nat) (k : Nat), (∀ e ∈ l, e.1 / 8 ≠ k) → wrS cur l k = cur k
  | [], _, _, _ => rfl
  | e :: l, cur, k, h => by
    show wrS (upd cur (e.1 / 8) e.2) l k = cur k
    rw [wrS_other l _ k (fun x hx => h x (by simp [hx]))]
    have := h e (by simp)
    simp [upd]; omega
theorem wrS_get : ∀ (l : List (Nat × Nat)) (cur : Nat → Nat), (l.map (·.1)).Nodup → (∀ e ∈ l, e.1 % 8 = 0) → ∀ e ∈ l, wrS cur l (e.1 / 8) = e.2
  | [], _, _, _, _, h => by simp at h
  | x :: l, cur, hn, ha, e, he => by
    show wrS (upd cur (x.1 / 8) x.2) l (e.1 / 8) = e.2
    simp only [List.map_cons, List.nodup_cons] at hn
    rcases List.mem_cons.1 he with rfl | he
    · rw [wrS_other l _ _ (fun y hy h => hn.1 (by
        have h1 := ha y (by simp [hy]); have h2 := ha e (by simp)
        have : y.1 = e.1 := by omega
        exact List.mem_map.2 ⟨y, hy, this⟩))]
      simp [upd]
    · exact wrS_get l _ hn.2 (fun y hy => ha y (by simp [hy])) e he
theorem wrS_bnd : ∀ (l : List (Nat × Nat)) (cur : Nat → Nat), (∀ i, cur i < 18446744073709551616) → (∀ e ∈ l, e.2 < 18446744073709551616) → ∀ i, wrS cur l i < 18446744073709551616
  | [], _, h, _, i => h i
  | x :: l, cur, h, hl, i => wrS_bnd l (upd cur (x.1 / 8) x.2) (fun j => by
      unfold upd
      split
      · exact hl x (by simp)
      · exact h j) (fun e he => hl e (by simp [he])) i
theorem upd_bnd {cur : Nat → Nat} (h : ∀ i, cur i < 18446744073709551616) {v : Nat} (hv : v < 18446744073709551616) (k i : Nat) : upd cur k v i < 18446744073709551616 := by
  unfold upd
  split
  · exact hv
  · exact h i
theorem LogU.upd_ {cur : Nat → Nat} {ws : List (Nat × Nat)} (h : LogU cur 30 ws) {i : Nat} (hi : outLog i) (hc : ws.length ≤ 100) (v : Nat) : LogU (upd cur i v) 30 ws := by
  unfold outLog at hi
  refine ⟨?_, fun j hj => ⟨?_, ?_⟩⟩
  · have := h.count
    simp only [upd]; rw [if_neg (by omega)]; exact this
  · have := (h.at_ j hj).1
    simp only [upd]; rw [if_neg (by omega)]; exact this
  · have := (h.at_ j hj).2
    simp only [upd]; rw [if_neg (by omega)]; exact this
theorem LogU.wrS_ : ∀ (l : List (Nat × Nat)) {cur : Nat → Nat} {ws : List (Nat × Nat)}, LogU cur 30 ws → ws.length ≤ 100 → (∀ e ∈ l, outLog (e.1 / 8)) → LogU (wrS cur l) 30 ws
  | [], _, _, h, _, _ => h
  | e :: l, _, _, h, hc, hl => LogU.wrS_ l (h.upd_ (hl e (by simp)) hc e.2) hc (fun x hx => hl x (by simp [hx]))
theorem svC_bnd {cur : Nat → Nat} (h : ∀ i, cur i < 18446744073709551616) {n : Nat} {os : List Nat} (ho : ∀ o ∈ os, o < 18446744073709551616) (hn : n + os.length < 18446744073709551616) (i : Nat) : svC cur 1920 n os i < 18446744073709551616 := by
  unfold svC
  split
  · exact h i
  · refine wrS_bnd _ _ (wrS_bnd _ _ h ?_) ?_ i
    · intro e he
      obtain ⟨j, hj, _, x, hx, h1 | h1⟩ := entW_mem 1920 _ _ e he
      · obtain ⟨o, ho', rfl⟩ := List.mem_map.1 hx
        rw [h1]; exact ho o ho'
      · obtain ⟨o, ho', rfl⟩ := List.mem_map.1 hx
        rw [h1]; exact h _
    · intro e he
      simp at he
      subst he
      exact hn
/-- A key of the map. -/
theorem has_key {w : World} {b n : Nat} {D : DataW Unit} {R : Value → Option (DataW Unit × List MemPlace)} (h : w.ownsMap Tryz.prog 35 R b n D) (o : Nat) : has D (kU o) = true ↔ o ∈ uKeys D := by
  obtain ⟨es, hD, hpw, _⟩ := h.entries keyedU
  have hko : ∀ p ∈ es, KeysOf Tryz.prog 35 p.1 := by
    obtain ⟨es', clock, _, F, _, hD'⟩ := h
    rw [hD'] at hD
    injection hD with hD
    subst hD
    exact fun p hp => fit_keys F p (mem_sorted.1 hp)
  subst hD
  rw [has_eq, List.any_eq_true]
  show _ ↔ o ∈ es.map fun p => litNat p.1
  rw [List.mem_map]
  constructor
  · rintro ⟨p, hp, hs⟩
    obtain ⟨v, hv⟩ := hko p hp
    obtain ⟨a, _, ha, _⟩ := keyOf_u64 Tryz.underlying35 hv
    rw [ha] at hs
    refine ⟨p, hp, ?_⟩
    rw [ha]
    have : (a : Int) = (o : Int) := by simpa [Lit.sameKey, kU] using hs
    simp [litNat]; omega
  · rintro ⟨p, hp, rfl⟩
    obtain ⟨v, hv⟩ := hko p hp
    obtain ⟨a, _, ha, _⟩ := keyOf_u64 Tryz.underlying35 hv
    exact ⟨p, hp, by rw [ha]; simp [Lit.sameKey, litNat]⟩
/-- What a savepoint says of the words. -/
structure MInv (base : Nat → Nat) (D : DataW Unit) : Prop where
  map : IsMap D
  off : ∀ o, has D (kU o) = true → OffOk 152 30 26 o
  cell : ∀ o, has D (kU o) = true → ∃ v, v < 18446744073709551616 ∧ D.atKey (kU o) (cellD 0 0 false) = cellD v (base (o / 8)) true
/-- The words, the log and the changed words agree. -/
structure UInv (cur base : Nat → Nat) (D : DataW Unit) (ws : List (Nat × Nat)) : Prop where
  map : IsMap D
  log : LogU cur 30 ws
  keys : ∀ o, has D (kU o) = true ↔ o ∈ ws.map (·.1)
  nd : (ws.map (·.1)).Nodup
  off : ∀ e ∈ ws, OffOk 152 30 26 e.1
  old : ∀ e ∈ ws, e.2 = base (e.1 / 8)
  cell : ∀ o, has D (kU o) = true → D.atKey (kU o) (cellD 0 0 false) = cellD (cur (o / 8)) (base (o / 8)) true
  rest : ∀ i, outLog i → has D (kU (8 * i)) = false → cur i = base i
  bnd : ∀ i, cur i < 18446744073709551616
  bbnd : ∀ i, base i < 18446744073709551616
section
variable {cur base : Nat → Nat} {D : DataW Unit} {ws : List (Nat × Nat)}
theorem UInv.start (h0 : cur 240 = 0) (hb : ∀ i, cur i < 18446744073709551616) : UInv cur cur (.map []) [] :=
  ⟨⟨_, rfl⟩, LogU.none h0, fun o => by simp [has], by simp, fun e h => by simp at h, fun e h => by simp at h, fun _ h => by simp [has] at h, fun _ _ _ => rfl, hb, hb⟩
theorem UInv.offD (h : UInv cur base D ws) {o : Nat} (ho : has D (kU o) = true) : OffOk 152 30 26 o := by
  obtain ⟨e, he, rfl⟩ := List.mem_map.1 ((h.keys o).1 ho)
  exact h.off e he
theorem UInv.mark (h : UInv cur base D ws) : MInv base D := ⟨h.map, fun _ ho => h.offD ho, fun o ho => ⟨_, h.bnd _, h.cell o ho⟩⟩
theorem UInv.allIn (h : UInv cur base D ws) : ∀ o, has D (kU o) = true → (cAt D o).2.2 = true := fun o ho => by
  unfold cAt
  rw [h.cell o ho, cDec_mk]
theorem UInv.val (h : UInv cur base D ws) : ∀ e ∈ ws, e.2 < 18446744073709551616 := fun e he => by rw [h.old e he]; exact h.bbnd _
/-- A new word. -/
theorem UInv.put_new (h : UInv cur base D ws) {o v : Nat} (ho : OffOk 152 30 26 o) (hD : has D (kU o) = false) (hv : v < 18446744073709551616) (hc : ws.length + 1 ≤ 100) :
    UInv (upd (svC cur 1920 ws.length [o]) (o / 8) v) base (D.put (kU o) (cellD v (cur (o / 8)) true)) (ws ++ [(o, cur (o / 8))]) := by
  have hod := ho.div
  have hcb : cur (o / 8) = base (o / 8) := h.rest _ hod (by rw [show 8 * (o / 8) = o by have := ho.al; omega]; exact hD)
  have hno : o ∉ ws.map (·.1) := fun hm => by rw [(h.keys o).2 hm] at hD; cases hD
  have hsv : ∀ i, outLog i → svC cur 1920 ws.length [o] i = cur i := fun i hi => svC_out (s := 30) (by unfold outLog at hi; simp; omega)
  have hl : LogU (svC cur (64 * 30) ws.length [o]) 30 (ws ++ frW cur [o]) := logU_save h.log [o]
  refine ⟨h.map.put _ _, ?_, fun x => ?_, ?_, ?_, ?_, fun x hx => ?_, fun i hi hx => ?_, ?_, h.bbnd⟩
  · exact LogU.upd_ hl hod (by simp [frW]; omega) v
  · by_cases e : x = o
    · subst e
      rw [has_put_same h.map (kU_key x)]
      simp
    · rw [has_put_other (kU_ne e), h.keys x]
      simp [e]
  · rw [List.map_append, List.nodup_append]
    exact ⟨h.nd, by simp, fun a ha b hb => by simp at hb; subst hb; exact fun e => hno (e ▸ ha)⟩
  · intro e he
    rcases List.mem_append.1 he with he | he
    · exact h.off e he
    · simp at he; subst he; exact ho
  · intro e he
    rcases List.mem_append.1 he with he | he
    · exact h.old e he
    · simp at he; subst he; exact hcb
  · by_cases e : x = o
    · subst e
      rw [atKey_put_same h.map (kU_key x), hcb]
      simp [upd]
    · rw [has_put_other (kU_ne e)] at hx
      have hox := h.offD hx
      have hne : x / 8 ≠ o / 8 := fun e' => e (hox.inj ho e')
      rw [atKey_put_other (kU_ne e), h.cell x hx]
      simp only [upd]
      rw [if_neg hne, hsv _ hox.div]
  · by_cases e : 8 * i = o
    · rw [e, has_put_same h.map (kU_key o)] at hx; cases hx
    · rw [has_put_other (kU_ne e)] at hx
      have hne : i ≠ o / 8 := by have := ho.al; omega
      simp only [upd]
      rw [if_neg hne, hsv i hi]
      exact h.rest i hi hx
  · exact upd_bnd (svC_bnd h.bnd (fun x hx => by simp at hx; subst hx; have := ho.lt; omega) (by simp; omega)) hv _
/-- A word that is changed already. -/
theorem UInv.put_old (h : UInv cur base D ws) {o v : Nat} (hD : has D (kU o) = true) (hv : v < 18446744073709551616) (hc : ws.length ≤ 100) :
    UInv (upd cur (o / 8) v) base (D.put (kU o) (cellD v (base (o / 8)) true)) ws := by
  have ho := h.offD hD
  have hod := ho.div
  refine ⟨h.map.put _ _, h.log.upd_ hod hc v, fun x => ?_, h.nd, h.off, h.old, fun x hx => ?_, fun i hi hx => ?_, upd_bnd h.bnd hv _, h.bbnd⟩
  · by_cases e : x = o
    · subst e
      rw [has_put_same h.map (kU_key x)]
      simpa using (h.keys x).1 hD
    · rw [has_put_other (kU_ne e), h.keys x]
  · by_cases e : x = o
    · subst e
      rw [atKey_put_same h.map (kU_key x)]
      simp [upd]
    · rw [has_put_other (kU_ne e)] at hx
      have hox := h.offD hx
      have hne : x / 8 ≠ o / 8 := fun e' => e (hox.inj ho e')
      rw [atKey_put_other (kU_ne e), h.cell x hx]
      simp only [upd]
      rw [if_neg hne]
  · by_cases e : 8 * i = o
    · rw [e, has_put_same h.map (kU_key o)] at hx; cases hx
    · rw [has_put_other (kU_ne e)] at hx
      have hne : i ≠ o / 8 := by have := ho.al; omega
      simp only [upd]
      rw [if_neg hne]
      exact h.rest i hi hx
/-- Behind a rollback of the log the words are as they were. -/
theorem UInv.back (h : UInv cur base D ws) {i : Nat} (hi : outLog i) : rbC cur ws i = base i := by
  unfold rbC
  by_cases h0 : ws = []
  · rw [if_pos h0]
    refine h.rest i hi ?_
    cases hh : has D (kU (8 * i)) with
    | false => rfl
    | true => have := (h.keys _).1 hh; rw [h0] at this; simp at this
  · rw [if_neg h0]
    have h1 : wrS (wrS cur ws) [(1920, 0)] i = wrS cur ws i := wrS_other _ _ _ (fun e he => by simp at he; subst he; unfold outLog at hi; show 1920 / 8 ≠ i; omega)
    rw [h1]
    cases hh : has D (kU (8 * i)) with
    | false =>
      rw [wrS_other ws cur i (fun e he hc => by
        have hk : has D (kU e.1) = true := (h.keys _).2 (List.mem_map.2 ⟨e, he, rfl⟩)
        have : e.1 = 8 * i := by have := (h.off e he).al; omega
        rw [this, hh] at hk; cases hk)]
      exact h.rest i hi hh
    | true =>
      obtain ⟨e, he, he1⟩ := List.mem_map.1 ((h.keys _).1 hh)
      have := wrS_get ws cur h.nd (fun e he => (h.off e he).al) e he
      rw [show e.1 / 8 = i by omega] at this
      rw [this, h.old e he]
      congr 1; omega
theorem UInv.rbnd (h : UInv cur base D ws) (i : Nat) : rbC cur ws i < 18446744073709551616 := by
  unfold rbC
  split
  · exact h.bnd i
  · exact wrS_bnd _ _ (wrS_bnd _ _ h.bnd h.val) (fun e he => by simp at he; subst he; omega) i
/-- Behind place. -/
theorem UInv.place (h : UInv cur base D ws) {D1 : DataW Unit} (hm : MInv base D1) {ks : List Nat} (hk : ∀ o, has D1 (kU o) = true ↔ o ∈ ks) (hn : ks.Nodup) (hc : ks.length ≤ 100) :
    UInv (plC cur ws D1 ks) base D1 (ks.map fun o => (o, base (o / 8))) := by
  have hall : ∀ o ∈ ks, (cAt D1 o).2.2 = true ∧ (cAt D1 o).2.1 = base (o / 8) ∧ (cAt D1 o).1 < 18446744073709551616 := fun o ho => by
    obtain ⟨v, hv, hc⟩ := hm.cell o ((hk o).2 ho)
    unfold cAt
    rw [hc, cDec_mk]
    exact ⟨rfl, rfl, hv⟩
  have hpl : ∀ l : List Nat, (∀ o ∈ l, o ∈ ks) → plW D1 false l = l.map fun o => (o, (cAt D1 o).1) := fun l => by
    induction l with
    | nil => intro _; rfl
    | cons o l ih =>
      intro hl
      have h1 := (hall o (hl o (by simp))).1
      have h2 := ih (fun x hx => hl x (by simp [hx]))
      have h3 : plW D1 false (o :: l) = (o, (cAt D1 o).1) :: plW D1 false l := by
        unfold plW
        rw [List.filterMap_cons]
        simp [h1]
      rw [h3, h2, List.map_cons]
  have hpk := hpl ks (fun o h => h)
  have hof : ∀ o ∈ ks, OffOk 152 30 26 o := fun o ho => hm.off o ((hk o).2 ho)
  have hmf : (plW D1 false ks).map (·.1) = ks := by rw [hpk, List.map_map]; simp [Function.comp_def]
  have hsv : ∀ i, outLog i → svC (rbC cur ws) 1920 0 ks i = base i := fun i hi => by
    rw [svC_out (s := 30) (by unfold outLog at hi; omega)]
    exact h.back hi
  have hlr : LogU (rbC cur ws) 30 [] := logU_rb h.log
  have hls : LogU (svC (rbC cur ws) 1920 0 ks) 30 (ks.map fun o => (o, base (o / 8))) := by
    have h1 : LogU (svC (rbC cur ws) (64 * 30) 0 ks) 30 ([] ++ frW (rbC cur ws) ks) := logU_save hlr ks
    have h2 : frW (rbC cur ws) ks = ks.map fun o => (o, base (o / 8)) := by
      unfold frW
      exact List.map_congr_left fun o ho => by rw [h.back (hof o ho).div]
    rw [List.nil_append, h2] at h1
    exact h1
  unfold plC
  rw [hmf]
  have hst : ∀ e ∈ plW D1 false ks, outLog (e.1 / 8) := fun e he => by
    rw [hpk] at he
    obtain ⟨o, ho, rfl⟩ := List.mem_map.1 he
    exact (hof o ho).div
  have hget : ∀ o ∈ ks, wrS (svC (rbC cur ws) 1920 0 ks) (plW D1 false ks) (o / 8) = (cAt D1 o).1 := fun o ho => by
    have := wrS_get (plW D1 false ks) (svC (rbC cur ws) 1920 0 ks) (by rw [hmf]; exact hn) (fun e he => by
      rw [hpk] at he
      obtain ⟨o, ho, rfl⟩ := List.mem_map.1 he
      exact (hof o ho).al) (o, (cAt D1 o).1) (by rw [hpk]; exact List.mem_map.2 ⟨o, ho, rfl⟩)
    exact this
  refine ⟨hm.map, hls.wrS_ _ (by simpa using hc) hst, fun o => ?_, ?_, ?_, ?_, fun o ho => ?_, fun i hi hx => ?_, ?_, h.bbnd⟩
  · rw [hk, List.map_map]; simp [Function.comp_def]
  · rw [List.map_map]; simpa [Function.comp_def] using hn
  · intro e he
    obtain ⟨o, ho, rfl⟩ := List.mem_map.1 he
    exact hof o ho
  · intro e he
    obtain ⟨o, ho, rfl⟩ := List.mem_map.1 he
    rfl
  · obtain ⟨v, hv, hc⟩ := hm.cell o ho
    have h1 := hget o ((hk o).1 ho)
    unfold cAt at h1
    rw [hc, cDec_mk] at h1
    rw [hc, h1]
  · rw [wrS_other _ _ _ (fun e he hc => by
      rw [hpk] at he
      obtain ⟨o, ho, rfl⟩ := List.mem_map.1 he
      have h1 : o = 8 * i := by have := (hof o ho).al; simp at hc; omega
      rw [← h1, (hk o).2 ho] at hx; cases hx)]
    exact hsv i hi
  · refine wrS_bnd _ _ (svC_bnd h.rbnd (fun o ho => by have := (hof o ho).lt; omega) (by omega)) (fun e he => ?_)
    rw [hpk] at he
    obtain ⟨o, ho, rfl⟩ := List.mem_map.1 he
    exact (hall o ho).2.2
end
end Go.Proofs.YtklpeghhgoeeiaaGreatDoor
/- bedrocklaw24: awake. -/
namespace Go.Proofs.YtklpeghhgoeeiaaGreatDoor
open Go.RowKit Go.Maps Go.Sort Go.Shelf
theorem Mks.none_ {c : CX} {w : World} {S : Fp} {t : TX} (h : t.marks = .slice none 0 0) : Mks c w S t [] :=
  ⟨by rw [h]; exact World.ownsRow_nil _ _ _ _, fun m hm => by simp at hm, fun m hm => by simp at hm, fun b hb => by rw [h] at hb; cases hb⟩
/-- The marks behind a store. -/
theorem Mks.chgS {c : CX} {w w' : World} {S S' : Fp} {t : TX} {l : List Mk} (h' : Mks c w S' t l) (hc : Chg (SG S t.words) w w') (h : Mks c w S t l) {n : Nat} {D : DataW Unit} (hw : w.ownsMap Tryz.prog 35 cellR t.words n D) : Mks c w' S' t l := by
  have h1 := h.chg hc (fun j hj => hj.elim .inl (fun e => .inr (.inl e))) ⟨_, _, hw⟩
  exact ⟨h1.row, h1.st, h'.off, h'.rowoff⟩
theorem UInv.ent {cur base : Nat → Nat} {D : DataW Unit} {ws : List (Nat × Nat)} (h : UInv cur base D ws) (hf : ws.length ≤ 12) : EntO ws := ⟨h.off, h.val, hf⟩
theorem off0 : OffOk 152 30 26 0 := ⟨by omega, by omega, by omega⟩
set_option maxRecDepth 100000 in
set_option maxHeartbeats 2000000 in
theorem awake_any (w : World) (ht : Tab w) : Calls Tryz.prog 10 #[] w fun e w' => e = .returned (.bool true) ∧ Below w.heap.size w w' := by
  have HMa := Lib.hid (made_any w ht)
  clear ht
  go_enter Tryz.func10, Tryz.ntmps10
  go_wp2_with fail
  refine HMa.out.mono ?_
  rintro e w1 ⟨a, S, T, cur, gw, x, cs, rfl, hM⟩
  obtain ⟨c, HW0, hgw, hB⟩ : ∃ c : CX, Hid (c.w0 = w) ∧ c.gw = gw ∧ Base c w1 S false none cur T := ⟨_, Lib.hid rfl, rfl, hM.base⟩
  subst hgw
  have HB := Lib.hid hB
  have hT : T ≤ 100 := hM.few
  have HU0 := Lib.hid (UInv.start hM.pool.u (fun i => by rw [hM.is_]; exact curM_bnd i))
  obtain ⟨_, hc0, _, hc2⟩ := hB.cells
  have k2 : w1.cell? ⟨c.gw, 2, none⟩ = some (.pointer (some ⟨c.x.m, 0, none⟩)) := (hB.blk.cell 2).trans hc2
  have HC0 := Lib.hid hc0
  have HBg := Lib.hid (begin_any hB 2 (.inr rfl))
  clear hM hB hc0 hc2 HMa
  go_wp2_with fail
  refine HBg.out.mono ?_
  rintro e w2 ⟨g, t, rfl, hf, hx, _⟩
  have hSt := store_new hx hf.open_ hf.mode hf.tail 0 6 off0 (by simp [has]) (by simp [Maps.size]) (by omega) HU0.out.log HU0.out.bnd (by omega)
  rw [show ((0 : Nat) : Int) = 0 from rfl, show ((6 : Nat) : Int) = 6 from rfl] at hSt
  have HSt := Lib.hid hSt
  have HU1 := Lib.hid (HU0.out.put_new off0 (by simp [has]) (v := 6) (by omega) (by simp))
  have HF := Lib.hid hf
  clear hx hf HBg k2 hSt
  go_wp2_with fail
  refine HSt.out.mono ?_
  rintro e w3 ⟨tl, S3, rfl, hx3⟩
  have hU1 : UInv (upd (svC cur 1920 0 [0]) (0 / 8) 6) cur ((DataW.map [] : DataW Unit).put (kU 0) (cellD 6 (cur (0 / 8)) true)) [(0, cur (0 / 8))] := HU1.out
  have hs1 : Maps.size ((DataW.map [] : DataW Unit).put (kU 0) (cellD 6 (cur (0 / 8)) true)) = 1 := by
    rw [size_put ⟨[], rfl, List.Pairwise.nil⟩]; simp [has, Maps.size]
  have hcA : (upd (svC cur 1920 0 [0]) (0 / 8) 6) (0 / 8) = 6 := by simp [upd]
  generalize (DataW.map [] : DataW Unit).put (kU 0) (cellD 6 (cur (0 / 8)) true) = D1 at *
  generalize upd (svC cur 1920 0 [0]) (0 / 8) 6 = cur1 at *
  have HU1 := Lib.hid hU1
  have HS1 := Lib.hid hs1
  have HA1 := Lib.hid hcA
  generalize ht1 : ({ t with tail := tl } : TX) = t1 at *
  have hop1 : t1.open_ = true := by rw [← ht1]; exact HF.out.open_
  have hmo1 : t1.mode = 2 := by rw [← ht1]; exact HF.out.mode
  have hmk1 : t1.marks = .slice none 0 0 := by rw [← ht1]; exact HF.out.marks
  have hid1 : t1.ids = 0 := by rw [← ht1]; exact HF.out.ids
  have hou1 : t1.outside = false := by rw [← ht1]; exact HF.out.outside
  have hsu1 : t1.surplus = false := by rw [← ht1]; exact HF.out.surplus
  have HSv := Lib.hid (savepoint_any hx3 hop1 (Mks.none_ hmk1) (by omega) (by simp))
  have HT1 : Hid (t1.open_ = true ∧ t1.mode = 2 ∧ t1.ids = 0 ∧ t1.outside = false ∧ t1.surplus = false) := Lib.hid ⟨hop1, hmo1, hid1, hou1, hsu1⟩
  clear hx3 hU1 hs1 hcA ht1 hop1 hmo1 hmk1 hid1 hou1 hsu1 HSt HU0
  go_wp2_with fail
  refine HSv.out.mono ?_
  rintro e w4 ⟨mv, km, rfl, hx4, hm4⟩
  have hI1 : t1.ids + 1 = 1 := by rw [HT1.out.2.2.1]
  rw [List.nil_append, hI1] at hm4
  rw [hI1] at hx4 ⊢
  generalize ht2 : ({ t1 with ids := 1, marks := mv } : TX) = t2 at *
  have HT2 : Hid (t2.open_ = true ∧ t2.mode = 2) := Lib.hid (by rw [← ht2]; exact ⟨HT1.out.1, HT1.out.2.1⟩)
  have hk1 : has D1 (kU 0) = true := (HU1.out.keys 0).2 (by simp)
  have hSt := store_old hx4 HT2.out.1 0 7 _ _ off0 hk1 (HU1.out.cell 0 hk1) (by omega) (by omega)
  rw [show ((0 : Nat) : Int) = 0 from rfl, show ((7 : Nat) : Int) = 7 from rfl] at hSt
  have hU2 := HU1.out.put_old hk1 (v := 7) (by omega) (by simp)
  have hcB : (upd cur1 (0 / 8) 7) (0 / 8) = 7 := by simp [upd]
  generalize hD2 : D1.put (kU 0) (cellD 7 (cur (0 / 8)) true) = D2 at *
  generalize upd cur1 (0 / 8) 7 = cur2 at *
  have HSt := Lib.hid hSt
  have HU2 := Lib.hid hU2
  have HcB := Lib.hid hcB
  have HX4 := Lib.hid hx4
  have HM4 := Lib.hid hm4
  clear hSt hU2 hcB hD2 hx4 hm4 ht2 hI1 HSv hk1
  go_wp2_with fail
  refine HSt.out.mono ?_
  rintro e w5 ⟨S5, rfl, hx5, hc5, hg5⟩
  have HM5 := Lib.hid ((HM4.out.grew hg5).chgS hc5 HM4.out HX4.out.maps.words)
  have hk2 : has D2 (kU 0) = true := (HU2.out.keys 0).2 (by simp)
  have hLd := loadX_word hx5 HT2.out.1 0 _ _ true (by omega) hk2 (HU2.out.cell 0 hk2)
  rw [HcB.out, show ((0 : Nat) : Int) = 0 from rfl, show ((7 : Nat) : Int) = 7 from rfl] at hLd
  have HLd := Lib.hid hLd
  have HX5 := Lib.hid hx5
  clear hx5 hc5 hg5 hk2 hLd HX4 HM4 HSt
  go_wp2_with fail
  refine HLd.out.mono ?_
  rintro e w6 ⟨rfl, hb6⟩
  have HX6 := Lib.hid (HX5.out.more_ hb6)
  have HM6 := Lib.hid (HM5.out.more_ hb6)
  have hRb := rollback_undo HX6.out HT2.out.1 HT2.out.2 HM6.out (by simp) 1 ⟨_, List.mem_singleton.2 rfl, rfl⟩ HU2.out.log (HU2.out.ent (by simp)) (by omega) (fun m hm => by
    rw [List.mem_singleton] at hm
    subst hm
    have hmk := HM6.out.st _ (List.mem_singleton.2 rfl)
    exact ⟨by rw [HS1.out]; omega, fun o ho => HU1.out.offD ((has_key hmk.words o).2 ho)⟩) HU2.out.rbnd
  rw [show ((1 : Nat) : Int) = 1 from rfl] at hRb
  have HRb := Lib.hid hRb
  clear hb6 hRb HLd HX5 HM5
  go_wp2_with fail
  refine HRb.out.mono ?_
  rintro e w7 ⟨k, hk, kk, v, S7, ks, hid7, rfl, hpp, hx7, hm7⟩
  have hk0 : k = 0 := by simp at hk; omega
  subst hk0
  have hp : ks.Perm (uKeys D1) := hpp
  have hkey : w6.ownsMap Tryz.prog 35 cellR km (0 + 1) D1 := (HM6.out.st _ (List.mem_singleton.2 rfl)).words
  have hU3 := HU2.out.place HU1.out.mark (ks := ks) (fun o => by rw [has_key hkey o]; exact (hp.mem_iff (a := o)).symm) (hp.nodup_iff.2 (uKeys_nodup hkey)) (by rw [hp.length_eq, uKeys_size hkey, HS1.out]; omega)
  have hksl : ks.length = 1 := by rw [hp.length_eq, uKeys_size hkey, HS1.out]
  have HX7 : Hid (TxS c g w7 S7 (rbT t2 ⟨1, km, t1.outside, t1.surplus, D1, 0 + 1⟩ kk v) D1 (0 + 1) (plC cur2 [(0, cur (0 / 8))] D1 ks) (T + 9 + 1 + 100)) := Lib.hid hx7
  generalize plC cur2 [(0, cur (0 / 8))] D1 ks = cur3 at *
  have hk1 : has D1 (kU 0) = true := (HU1.out.keys 0).2 (by simp)
  have hv3 : cur3 (0 / 8) = 6 := by
    have h1 := hU3.cell 0 hk1
    rw [HU1.out.cell 0 hk1] at h1
    have := (cellD_inj h1).1
    rw [← this]; exact HA1.out
  have hCm := commit_undo HX7.out HT2.out.1 HT2.out.2 HT1.out.2.2.2.1 HT1.out.2.2.2.2 hU3.allIn (by rw [HS1.out]; omega) hU3.log (hU3.ent (by simp; omega)) (by omega) hU3.bnd
  have hv4 : cmC cur3 (ks.map fun o => (o, cur (o / 8))) (0 / 8) = 6 := by
    unfold cmC
    split
    · exact hv3
    · rw [wrS_other _ _ _ (fun e he => by simp at he; subst he; simp)]
      exact hv3
  generalize cmC cur3 (ks.map fun o => (o, cur (o / 8))) = cur4 at *
  have HCm := Lib.hid hCm
  have HV4 := Lib.hid hv4
  clear hp hpp hx7 hm7 hid7 hkey hU3 hksl hk1 hv3 hCm hv4 hk HRb HX6 HM6
  go_wp2_with fail
  refine HCm.out.mono ?_
  rintro e w8 ⟨S8, rfl, hx8⟩
  have k0 : w8.cell? ⟨c.gw, 0, none⟩ = some (.pointer (some ⟨c.a.d, 0, none⟩)) := by
    obtain ⟨_, h0, _, _⟩ := hx8.base.cells
    exact (hx8.base.blk.cell 0).trans h0
  have g8 : w8.cell? ⟨g, 8, none⟩ = some (.bool false) := hx8.tx.cell 8
  have HTh := Lib.hid (thread_any hx8.base.dev)
  have hLd := load_dev hx8.base.dev (j := 0) (by omega) 0 (by omega) (by omega)
  rw [HV4.out, show ((0 : Nat) : Int) = 0 from rfl, show ((6 : Nat) : Int) = 6 from rfl] at hLd
  have HLd := Lib.hid hLd
  have HBe : Hid (Below w.heap.size w w8) := Lib.hid (by rw [← HW0.out]; exact hx8.base.below)
  clear hx8 hLd HCm
  go_wp2_with (first
    | (go_at_call 18; refine HTh.out.mono ?_; rintro e w9 ⟨rfl, rfl⟩)
    | (go_at_call 19; refine HLd.out.mono ?_; rintro e w9 ⟨rfl, rfl⟩)
    | go_in)
  go_ret
  exact ⟨rfl, HBe.out⟩
end Go.Proofs.YtklpeghhgoeeiaaGreatDoor
/- bedrocklaw24: TxErrors. -/
namespace Go.Proofs.YtklpeghhgoeeiaaGreatDoor
open Go.RowKit Go.Maps Go.Sort Go.Shelf
set_option maxRecDepth 100000 in
set_option maxHeartbeats 2000000 in
theorem txErrors_law (w : World) (ht : Tab w) {v0 v1 v2 : Value} (mode : Nat) (h0 : v0 = .int .u8 (mode : Int) ∧ mode < 256) (off : Nat) (h1 : v1 = .int .u64 (off : Int) ∧ off < 18446744073709551616) (words : Int) (h2 : v2 = .int .i64 words ∧ (Lit.int .i64 words).wf = true) :
    Calls Tryz.prog 6 #[v0, v1, v2] w fun e w' => e = .returned (.bool true) ∧ Below w.heap.size w w' := by
  obtain ⟨rfl, _⟩ := h0
  obtain ⟨rfl, _⟩ := h1
  obtain ⟨rfl, _⟩ := h2
  have HAw := Lib.hid (awake_any w ht)
  have HTa := Lib.hid ht
  clear ht
  go_enter Tryz.func6, Tryz.ntmps6
  go_wp2_with fail
  refine HAw.out.mono ?_
  rintro e w1 ⟨rfl, hb1⟩
  have HB1 := Lib.hid hb1
  have HMa := Lib.hid (made_any w1 (HTa.out.below hb1))
  clear hb1 HAw
  go_wp2_with fail
  refine HMa.out.mono ?_
  rintro e w2 ⟨a, S, T, cur, gw, x, cs, rfl, hM⟩
  obtain ⟨c, HW0, hgw, hB⟩ : ∃ c : CX, Hid (c.w0 = w1) ∧ c.gw = gw ∧ Base c w2 S false none cur T := ⟨_, Lib.hid rfl, rfl, hM.base⟩
  subst hgw
  have HB := Lib.hid hB
  clear hM hB HMa
  go_wp2_with fail
  refine (txNew_any none none none none w2).mono ?_
  rintro e w3 ⟨rfl, rfl⟩
  have HBl := Lib.hid (Blk.new w2 94 (mgrCells none none none none none))
  have HB3 := Lib.hid (HB.out.more_ ((Below.refl _ w2).alloc (Nat.le_refl _) (.cells (mgrCells none none none none none) 94)))
  generalize w2.alloc (.cells (mgrCells none none none none none) 94) = W at *
  have HBn := Lib.hid (begin_none W _ HBl.out)
  have HNe : Hid (w2.heap.size ≠ c.x.h ∧ w2.heap.size ≠ c.x.m) := Lib.hid ⟨fun e => by have := HB.out.sys.h.lt; omega, fun e => by have := HB.out.sys.m.lt; omega⟩
  have k2 : W.cell? ⟨c.gw, 2, none⟩ = some (.pointer (some ⟨c.x.m, 0, none⟩)) := by
    obtain ⟨_, _, _, h2⟩ := HB3.out.cells
    exact (HB3.out.blk.cell 2).trans h2
  have k1 : W.cell? ⟨c.gw, 1, none⟩ = some (.pointer (some ⟨c.x.h, 0, none⟩)) := by
    obtain ⟨_, _, h1, _⟩ := HB3.out.cells
    exact (HB3.out.blk.cell 1).trans h1
  have n4 : W.cell? ⟨w2.heap.size, 4, none⟩ = some (.pointer none) := HBl.out.cell 4
  have h7 : W.cell? ⟨c.x.h, 7, none⟩ = some (.bool false) := HB3.out.sys.h.cell 7
  have HBe : Hid (Below w.heap.size w W) := Lib.hid (HB1.out.trans (by
    have h := HB3.out.below
    rw [HW0.out] at h
    exact h.mono HB1.out.size))
  clear HB
  by_cases hmo : mode = 1 ∨ mode = 2
  · have hBg := begin_any HB3.out mode hmo
    have hm12 : ((mode : Int) = 1) ∨ ((mode : Int) = 2) := by omega
    generalize (mode : Int) = mi at *
    have HBg := Lib.hid hBg
    clear hBg hmo
    have HNl : Hid (∀ W, Calls Tryz.prog 12 #[.pointer none, .int .u8 1] W fun e w' => e = .returned (.tuple #[.pointer none, .int .i64 1]) ∧ W = w') := Lib.hid begin_nil
    rcases hm12 with rfl | rfl
    all_goals
      go_wp2_with (first
        | (go_at_call 12; refine HBn.out.mono ?_; rintro e w4 ⟨rfl, rfl⟩; clear HBn)
        | (go_at_call 12; refine stop ?_)
        | go_in)
      unfold Stop
      refine HBg.out.mono ?_
      rintro e w5 ⟨g, t, rfl, hf, hx, hcg⟩
      have HBb := Lib.hid (begin_busy hx.base)
      have k2 : w5.cell? ⟨c.gw, 2, none⟩ = some (.pointer (some ⟨c.x.m, 0, none⟩)) := by
        obtain ⟨_, _, _, h2⟩ := hx.base.cells
        exact (hx.base.blk.cell 2).trans h2
      have n4 : w5.cell? ⟨w2.heap.size, 4, none⟩ = some (.pointer none) := (hcg.blk HBl.out (fun e => e.elim HNe.out.1 HNe.out.2)).cell 4
      have HB5 : Hid (Below w.heap.size w w5) := Lib.hid (by
        have h := hx.base.below
        rw [HW0.out] at h
        exact HB1.out.trans (h.mono HB1.out.size))
      clear hf hx hcg HBg HB3 HBe k1 h7
      go_wp2_with (first
        | (go_at_call 12; refine HBb.out.mono ?_; rintro e w6 ⟨rfl, rfl⟩; clear HBb)
        | (go_at_call 12; refine (HNl.out _).mono ?_; rintro e w6 ⟨rfl, rfl⟩)
        | go_in)
      go_ret
      exact ⟨rfl, HB5.out⟩
  · have HBb := Lib.hid (begin_bad HB3.out (mode : Int) (by omega) (by omega))
    have e1 : ((mode : Int) == 1) = false := by simp; omega
    have e2 : ((mode : Int) == 2) = false := by simp; omega
    have e3 : ((mode : Int) != 1) = true := by simp; omega
    have e4 : ((mode : Int) != 2) = true := by simp; omega
    go_wp2_with (first
      | (go_at_call 12; refine HBn.out.mono ?_; rintro e w4 ⟨rfl, rfl⟩; clear HBn)
      | (go_at_call 12; refine HBb.out.mono ?_; rintro e w4 ⟨rfl, rfl⟩; clear HBb)
      | go_in)
    go_ret
    exact ⟨rfl, HBe.out⟩
end Go.Proofs.YtklpeghhgoeeiaaGreatDoor
