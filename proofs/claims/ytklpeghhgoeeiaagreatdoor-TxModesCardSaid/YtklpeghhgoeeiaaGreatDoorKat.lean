/- The walks and laws that the claim leans on, part 20: each part says ahead of its lines what it holds. -/
import Derived.Test.YtklpeghhgoeeiaaGreatDoorKas
/- tx: Rollback to a savepoint, in mode Undo. -/
namespace Go.Proofs.YtklpeghhgoeeiaaGreatDoor
open Go.RowKit Go.Maps Go.Shelf
theorem own_cut {w : World} {base : Nat} {e : TypeId} {size n c : Nat} {A : Option Addr} {xs : List Value} (h : w.ownsRow base e size (.slice A n c) n xs) {m : Nat} (hm : m ≤ n) : w.ownsRow base e size (.slice A m c) m (xs.take (m * size)) := by
  refine ⟨by rw [List.length_take, h.1]; exact Nat.min_eq_left (Nat.mul_le_mul_right _ hm), ?_⟩
  rcases h.2 with ⟨hv, h0⟩ | ⟨g, cap, cur, hv, hb, hh, h1, h2, h3, h4⟩
  · injection hv with e1 e2 e3
    subst e1 e3
    have : m = 0 := by omega
    subst this
    exact .inl ⟨rfl, rfl⟩
  · injection hv with e1 e2 e3
    subst e1 e3
    refine .inr ⟨g, c, cur, rfl, hb, hh, by omega, h2, h3, ?_⟩
    rw [← h4, List.take_take, Nat.min_eq_left (Nat.mul_le_mul_right _ hm)]
theorem mkCells_take (l : List Mk) (k : Nat) (hk : k ≤ l.length) : (mkCells l).take (k * 7) = mkCells (l.take k) := by
  have h : mkCells l = mkCells (l.take k) ++ mkCells (l.drop k) := by
    conv => lhs; rw [← List.take_append_drop k l]
    simp only [mkCells, List.flatMap_append]
  rw [h, List.take_left' (by rw [mkCells_len, List.length_take, Nat.min_eq_left hk])]
theorem Mks.cut {c : CX} {w : World} {S : Fp} {t : TX} {l : List Mk} (h : Mks c w S t l) {A : Option Addr} {cc : Nat} (hmv : t.marks = .slice A l.length cc) {k : Nat} (hk : k ≤ l.length) :
    Mks c w S { t with marks := .slice A k cc } (l.take k) ∧ w.ownsRow c.w0.heap.size 111 7 (.slice A k cc) k (mkCells (l.take k)) := by
  have hr := h.row
  rw [hmv] at hr
  have hr2 := own_cut hr (m := k) hk
  rw [mkCells_take l k hk] at hr2
  refine ⟨⟨?_, fun m hm => h.st m (List.mem_of_mem_take hm), fun m hm => h.off m (List.mem_of_mem_take hm), fun b hb => h.rowoff b ?_⟩, hr2⟩
  · show w.ownsRow c.w0.heap.size 111 7 (.slice A k cc) (l.take k).length (mkCells (l.take k))
    rw [List.length_take, Nat.min_eq_left hk]
    exact hr2
  · rw [hmv]
    have hb : (Value.slice A k cc).ownBlock = some b := hb
    cases A <;> simp [Value.ownBlock] at hb ⊢
    exact hb
/-- A step of the device. -/
theorem Mks.step {c : CX} {w w' : World} {S S' : Fp} {t : TX} {l : List Mk} (h : Mks c w S t l) (hc : Chg S w w') (hg : Grew S S' w) (hw : ∃ n D, w.ownsMap Tryz.prog 35 cellR t.words n D) : Mks c w' S' t l := by
  have h1 := h.chg hc (fun j hj => .inl hj) hw
  have h2 := h.grew hg
  exact ⟨h1.row, h1.st, h2.off, h2.rowoff⟩
/-- The state that a rollback leaves. -/
def rbT (t : TX) (m : Mk) (kk : Nat) (v : Value) : TX := { t with words := kk, inner := kk + 1, own := kk + 2, freed := kk + 3, outside := m.x, surplus := m.y, marks := v }
def rbW (W : World) (g kk : Nat) (x y : Bool) : World := ((((((W.setCell ⟨g, 0, none⟩ (.map (some kk))).setCell ⟨g, 1, none⟩ (.map (some (kk + 1)))).setCell ⟨g, 2, none⟩ (.map (some (kk + 2)))).setCell ⟨g, 3, none⟩ (.map (some (kk + 3)))).setCell ⟨g, 4, none⟩ (.bool x)).setCell ⟨g, 5, none⟩ (.bool y))
theorem rbW_chg (W : World) (g kk : Nat) (x y : Bool) : Chg (fun j => j = g) W (rbW W g kk x y) :=
  ((((((Chg.refl (fun j => j = g) W).setCell (p := ⟨g, 0, none⟩) (.inl rfl) _).setCell (p := ⟨g, 1, none⟩) (.inl rfl) _).setCell (p := ⟨g, 2, none⟩) (.inl rfl) _).setCell (p := ⟨g, 3, none⟩) (.inl rfl) _).setCell (p := ⟨g, 4, none⟩) (.inl rfl) _).setCell (p := ⟨g, 5, none⟩) (.inl rfl) _
theorem TxS.reset {c : CX} {g : Nat} {w : World} {S : Fp} {t : TX} {D : DataW Unit} {n : Nat} {cur : Nat → Nat} {T : Nat} (h : TxS c g w S t D n cur T) (m : Mk) {kk : Nat} (hs : St4 w kk (kk + 1) (kk + 2) (kk + 3) m.D m.n) {N : Nat} (hN : N ≤ kk) (hS : ∀ k, S k → k < N) (hhe : t.held < N) (hco : t.cover < N) (h0 : c.w0.heap.size ≤ N) :
    TxS c g (rbW w g kk m.x m.y) S (rbT t m kk t.marks) m.D m.n cur T := by
  have hc := rbW_chg w g kk m.x m.y
  have hb := h.base
  have b0 := (((((h.tx.set_ 0 (.map (some kk))).set_ 1 (.map (some (kk + 1)))).set_ 2 (.map (some (kk + 2)))).set_ 3 (.map (some (kk + 3)))).set_ 4 (.bool m.x)).set_ 5 (.bool m.y)
  have hbs : Base c (rbW w g kk m.x m.y) S true (some ⟨g, 0, none⟩) cur T :=
    hb.chg hc (fun k hk e => h.outg (e ▸ hk)) ⟨hb.sys.r.ne_ h.tx (by decide), hb.sys.u.ne_ h.tx (by decide), hb.sys.h.ne_ h.tx (by decide), hb.sys.m.ne_ h.tx (by decide)⟩ (hb.blk.ne_ h.tx (by decide)) (fun k hk => by rw [hk]; exact h.newg)
  have hg : ∀ {b nn : Nat} {R} {DD : DataW Unit}, w.ownsMap Tryz.prog 35 R b nn DD → ¬ (b = g) := fun hm e => map_ne_blk hm h.tx e
  have hSk : ∀ j, kk ≤ j → ¬ S j := fun j hj hs => by have := hS j hs; omega
  obtain ⟨_, _, _, _, o5, o6⟩ := h.outm
  have a1 : kk + 1 ≠ kk := by omega
  have a2 : kk + 2 ≠ kk := by omega
  have a3 : kk + 3 ≠ kk := by omega
  have a4 : t.held ≠ kk := by omega
  have a5 : t.cover ≠ kk := by omega
  exact ⟨hbs, b0, ⟨hc.map hs.words (hg hs.words), hc.map hs.inner (hg hs.inner), hc.map hs.own (hg hs.own), hc.map hs.freed (hg hs.freed), hc.map h.maps.held (hg h.maps.held), hc.map h.maps.cover (hg h.maps.cover), ⟨a1, a2, a3, a4, a5⟩⟩, h.outg, ⟨hSk _ (Nat.le_refl _), hSk _ (by show kk ≤ kk + 1; omega), hSk _ (by show kk ≤ kk + 2; omega), hSk _ (by show kk ≤ kk + 3; omega), o5, o6⟩, h.newg, Nat.le_trans h0 hN⟩
theorem Mks.reset {c : CX} {g : Nat} {w : World} {S : Fp} {t : TX} {l : List Mk} {cs : Array Value} (h : Mks c w S t l) (hB : Blk w g 104 cs) {nn : Nat} {DD : DataW Unit} (hwm : w.ownsMap Tryz.prog 35 cellR t.words nn DD) (m : Mk) {kk N : Nat} (hN : N ≤ kk) (hl : ∀ m ∈ l, m.k + 3 < N) : Mks c (rbW w g kk m.x m.y) S (rbT t m kk t.marks) l := by
  have h1 := h.chg (rbW_chg w g kk m.x m.y) (fun j hj => .inr (.inr ⟨_, _, by decide, hj ▸ hB⟩)) ⟨_, _, hwm⟩
  exact ⟨h1.row, h1.st, fun m' hm j j1 j2 => ⟨(h1.off m' hm j j1 j2).1, by have := hl m' hm; show j ≠ kk; omega⟩, h1.rowoff⟩
def RetRb (c : CX) (g : Nat) (t : TX) (cur : Nat → Nat) (T : Nat) (l : List Mk) (ws : List (Nat × Nat)) (sp : Int) (e : Ending) (w' : World) : Prop :=
  ∃ (k : Nat) (hk : k < l.length) (kk : Nat) (v : Value) (S' : Fp) (ks : List Nat), ((l[k]).id : Int) = sp ∧ e = .returned (.int .i64 0) ∧ ks.Perm (uKeys (l[k]).D) ∧ TxS c g w' S' (rbT t l[k] kk v) (l[k]).D (l[k]).n (plC cur ws (l[k]).D ks) (T + 500) ∧ Mks c w' S' (rbT t l[k] kk v) (l.take (k + 1))
def RetRbZ (c : CX) (g : Nat) (w : World) (S : Fp) (t : TX) (cur : Nat → Nat) (T : Nat) (l : List Mk) (ws : List (Nat × Nat)) (sp : Int) (e : Ending) (w' : World) : Prop :=
  ∃ (k : Nat) (hk : k < l.length) (kk : Nat) (v : Value) (S' : Fp) (ks : List Nat), ((l[k]).id : Int) = sp ∧ e = .returned (.int .i64 0) ∧ ks.Perm (uKeys (l[k]).D) ∧ TxS c g w' S' (rbT t l[k] kk v) (l[k]).D (l[k]).n (plC cur ws (l[k]).D ks) (T + 500) ∧ Mks c w' S' (rbT t l[k] kk v) (l.take (k + 1)) ∧ Chg (fun j => S j ∨ j = g) w w' ∧ Grew S S' w ∧ v.ownBlock = t.marks.ownBlock ∧ w.heap.size ≤ kk
set_option maxRecDepth 100000 in
set_option maxHeartbeats 2000000 in
theorem rollback_undo_z {c : CX} {g : Nat} {w : World} {S : Fp} {t : TX} {D : DataW Unit} {n : Nat} {cur : Nat → Nat} {T : Nat} {l : List Mk} (h : TxS c g w S t D n cur T) (hop : t.open_ = true) (hmode : t.mode = 2) (hmk : Mks c w S t l) (hll : l.length ≤ 1000) (sp : Nat) (hsp : ∃ m ∈ l, m.id = sp)
    {ws : List (Nat × Nat)} (hl : LogU cur 30 ws) (hw : EntO ws) (hT : T ≤ 1000000) (hsz : ∀ m ∈ l, Maps.size m.D ≤ 50 ∧ ∀ o ∈ uKeys m.D, OffOk 152 30 26 o) (hcv : ∀ i, rbC cur ws i < 18446744073709551616) :
    Calls Tryz.prog 16 #[.pointer (some ⟨g, 0, none⟩), .int .i64 (sp : Int)] w (RetRbZ c g w S t cur T l ws (sp : Int)) := by
  obtain ⟨A, cc, hmv⟩ := own_slice hmk.row
  have hba : Below w.heap.size w (w.alloc (.cells #[.int .i64 (sp : Int)] 3)) := (Below.refl _ w).alloc (Nat.le_refl _) _
  have hxa := h.more_ hba
  have hma := hmk.more_ hba
  have c8 : (w.alloc (.cells #[.int .i64 (sp : Int)] 3)).cell? ⟨g, 8, none⟩ = some (.bool true) := (hxa.tx.cell 8).trans (by simp [txCells, hop])
  have c9 : (w.alloc (.cells #[.int .i64 (sp : Int)] 3)).cell? ⟨g, 9, none⟩ = some (.slice A l.length cc) := (hxa.tx.cell 9).trans (by simp [txCells, hmv])
  have c6 : (w.alloc (.cells #[.int .i64 (sp : Int)] 3)).cell? ⟨g, 6, none⟩ = some (.pointer (some ⟨c.x.m, 0, none⟩)) := hxa.tx.cell 6
  have m0 : (w.alloc (.cells #[.int .i64 (sp : Int)] 3)).cell? ⟨c.x.m, 0, none⟩ = some (.pointer (some ⟨c.a.th 0, 0, none⟩)) := hxa.base.sys.m.cell 0
  have HE := Lib.hid (err_dev hxa.base.dev (j := 0) (by omega))
  have hrow := hma.row
  rw [hmv] at hrow
  have HI := Lib.hid (index_any A l.length cc l (sp : Int) w.heap.size _ (Reads.of_own hrow) ((Blk.new w 3 #[.int .i64 (sp : Int)]).cell 0) (by simp) (by omega))
  have HBa := Lib.hid hba
  have HXa := Lib.hid hxa
  have HMa := Lib.hid hma
  have HRow := Lib.hid hrow
  have HNo : Hid (¬ ∀ m ∈ l, (m.id : Int) ≠ (sp : Int)) := Lib.hid (fun hn => by
    obtain ⟨m, hm, e⟩ := hsp
    exact hn m hm (by rw [e]))
  have hlg : g < w.heap.size := h.tx.lt
  have HSn : Hid (∀ k, w.heap.size ≤ k → ¬ S k) := fun k hk hs => by have := h.base.dev.lt _ hs; omega
  have HLt := Lib.hid h.lts
  have hlW : (w.alloc (.cells #[.int .i64 (sp : Int)] 3)).heap.size = w.heap.size + 1 := by simp
  have HLW := Lib.hid hlW
  clear h hmk hba hxa hma hrow hsp hlW
  go_enter Tryz.func16, Tryz.ntmps16
  go_wp2_with (first
    | (go_at_call 48; refine HE.out.mono ?_; rintro e w1 ⟨rfl, rfl⟩)
    | (go_at_call 55; refine stop ?_)
    | go_in)
  unfold Stop
  refine HI.out.mono ?_
  rintro e W ⟨⟨r, rfl, ⟨rfl, hno⟩ | ⟨k, rfl, hk, hid⟩⟩, hb⟩
  · exact absurd hno HNo.out
  have HX := Lib.hid (HXa.out.more_ hb)
  have HM := Lib.hid (HMa.out.more_ hb)
  have HRw := Lib.hid ((Chg.of_below (S := Fp.no) hb).own HRow.out (fun _ _ h => h))
  have HLe := Lib.hid hb.size
  have HZ0 : Hid (Chg (fun j => S j ∨ j = g) w W) := Lib.hid (Chg.of_below (HBa.out.trans (hb.mono HBa.out.size)))
  have HId := Lib.hid hid
  have d9 : W.cell? ⟨g, 9, none⟩ = some (.slice A l.length cc) := (HX.out.tx.cell 9).trans (by simp [txCells, hmv])
  have z9 : W.frozen? ⟨g, 9, none⟩ = false := HX.out.tx.frozen 9
  have hcap : l.length ≤ cc ∧ cc ≤ 9223372036854775807 := own_cap HRw.out
  obtain ⟨q1, q2⟩ := hcap
  have q3 : (k : Int) + 1 ≤ (cc : Int) := by omega
  have q4 : k + 1 ≤ cc := by omega
  have q5 : decide ((k : Int) < 0) = false := decide_eq_false (by omega)
  have HX1 := Lib.hid (HX.out.set 9 (.slice A (k + 1) cc) { t with marks := .slice A (k + 1) cc } rfl ⟨rfl, rfl, rfl, rfl, rfl, rfl⟩)
  have hZ1 : Chg (fun j => j = g) W (W.setCell ⟨g, 9, none⟩ (.slice A (k + 1) cc)) := (Chg.refl (fun j => j = g) W).setCell (p := ⟨g, 9, none⟩) (.inl rfl) _
  have HZ1 := Lib.hid (HZ0.out.setCell (p := ⟨g, 9, none⟩) (.inl (.inr rfl)) (.slice A (k + 1) cc))
  have HVB : Hid ((Value.slice A (k + 1) cc).ownBlock = t.marks.ownBlock) := Lib.hid (by rw [hmv]; cases A <;> rfl)
  have hmc := HM.out.chg hZ1 (fun j hj => .inr (.inr ⟨_, _, by decide, hj ▸ HX.out.tx⟩)) ⟨_, _, HX.out.maps.words⟩
  obtain ⟨hm1, hr2⟩ := hmc.cut hmv (k := k + 1) hk
  have HM1 := Lib.hid hm1
  have HR1 := Lib.hid hr2
  have hr1 := Reads.of_own hr2
  have HSt : Hid (St4 (W.setCell ⟨g, 9, none⟩ (.slice A (k + 1) cc)) (l[k]).k ((l[k]).k + 1) ((l[k]).k + 2) ((l[k]).k + 3) (l[k]).D (l[k]).n) := Lib.hid (hmc.st _ (List.getElem_mem hk))
  obtain ⟨hl2, b, off, rfl, hbl, f0, f1, f2, f3, f4, f5, f6⟩ := mk_facts hr1 (k := k) (by omega)
  rw [List.getElem_take] at f0 f1 f2 f3 f4 f5 f6
  have HSl := Lib.hid (hsz _ (List.getElem_mem hk))
  have HIdm : Hid (∃ hk : k < l.length, ((l[k]).id : Int) = (sp : Int) ∧ l[k] = l[k]) := Lib.hid ⟨hk, HId.out, rfl⟩
  have HIdx : Hid (∃ m, ∃ hk : k < l.length, l[k] = m) := Lib.hid ⟨_, hk, rfl⟩
  generalize hmk : l[k] = mk at *
  have HMk : Hid (l[k] = mk) := Lib.hid hmk
  have k1 : (W.setCell ⟨g, 9, none⟩ (.slice (some ⟨b, off, none⟩) (k + 1) cc)).cell? ⟨g, 1, none⟩ = some (.map (some t.inner)) := HX1.out.tx.cell 1
  have k9 : (W.setCell ⟨g, 9, none⟩ (.slice (some ⟨b, off, none⟩) (k + 1) cc)).cell? ⟨g, 9, none⟩ = some (.slice (some ⟨b, off, none⟩) (k + 1) cc) := HX1.out.tx.cell 9
  have q6 : (k : Int) < (k : Int) + 1 := by omega
  have HCl := Lib.hid (stClone_any _ mk.k (mk.k + 1) (mk.k + 2) (mk.k + 3) mk.x mk.y mk.D mk.n HSt.out)
  clear hmk hr1 hr2 hm1 hmc hZ1 HIdx
  unfold stV at HCl
  go_wp2_with fail
  have hWs : (W.setCell ⟨g, 9, none⟩ (.slice (some ⟨b, off, none⟩) (k + 1) cc)).heap.size = W.heap.size := by simp
  generalize W.setCell ⟨g, 9, none⟩ (.slice (some ⟨b, off, none⟩) (k + 1) cc) = W1 at *
  generalize ht1 : ({ t with marks := .slice (some ⟨b, off, none⟩) (k + 1) cc } : TX) = t1 at *
  have HT1 := Lib.hid ht1
  have HW1 := Lib.hid hWs
  clear ht1 hWs f0 f1 f2 f3 f4 f5 f6 k1 k9 HX HM d9 z9 hbl
  refine HCl.out.mono ?_
  rintro e W2 ⟨kk, rfl, hst, hkk, hb2⟩
  have HX2 := Lib.hid (HX1.out.more_ hb2)
  have HM2 := Lib.hid (HM1.out.more_ hb2)
  have HSt2 := Lib.hid hst
  have HKk := Lib.hid hkk
  have HZ2 := Lib.hid (HZ1.out.below hb2)
  have HKw : Hid (w.heap.size ≤ kk) := Lib.hid (Nat.le_trans HZ1.out.size hkk)
  clear hst hkk hb2 HCl HSt HR1
  have z0 : W2.frozen? ⟨g, 0, none⟩ = false := HX2.out.tx.frozen 0
  have z1 : W2.frozen? ⟨g, 1, none⟩ = false := HX2.out.tx.frozen 1
  have z2 : W2.frozen? ⟨g, 2, none⟩ = false := HX2.out.tx.frozen 2
  have z3 : W2.frozen? ⟨g, 3, none⟩ = false := HX2.out.tx.frozen 3
  have z4 : W2.frozen? ⟨g, 4, none⟩ = false := HX2.out.tx.frozen 4
  have z5 : W2.frozen? ⟨g, 5, none⟩ = false := HX2.out.tx.frozen 5
  have y0 : W2.cell? ⟨g, 0, none⟩ = some (.map (some t1.words)) := HX2.out.tx.cell 0
  have y1 : W2.cell? ⟨g, 1, none⟩ = some (.map (some t1.inner)) := HX2.out.tx.cell 1
  have y2 : W2.cell? ⟨g, 2, none⟩ = some (.map (some t1.own)) := HX2.out.tx.cell 2
  have y3 : W2.cell? ⟨g, 3, none⟩ = some (.map (some t1.freed)) := HX2.out.tx.cell 3
  have y4 : W2.cell? ⟨g, 4, none⟩ = some (.bool t1.outside) := HX2.out.tx.cell 4
  have y5 : W2.cell? ⟨g, 5, none⟩ = some (.bool t1.surplus) := HX2.out.tx.cell 5
  have y7 : W2.cell? ⟨g, 7, none⟩ = some (.int .u8 2) := (HX2.out.tx.cell 7).trans (by rw [← HT1.out]; simp [txCells, hmode])
  unfold stV
  go_wp2_with fail
  have HN1 : Hid (∀ k, S k → k < W1.heap.size) := Lib.hid HX1.out.base.dev.lt
  have HX3 := Lib.hid (HX2.out.reset mk HSt2.out HKk.out HN1.out HX1.out.maps.held.lt HX1.out.maps.cover.lt HX1.out.base.below.size)
  have HM3 := Lib.hid (HM2.out.reset HX2.out.tx HX2.out.maps.words mk HKk.out (fun m hm => (HM1.out.st m hm).lt))
  have HIn : Hid ((rbW W2 g kk mk.x mk.y).ownsMap Tryz.prog 35 oneR t.inner 0 (.map [])) := Lib.hid (by
    have h := HX2.out.maps.inner
    have e : t1.inner = t.inner := by rw [← HT1.out]
    rw [e] at h
    exact (rbW_chg W2 g kk mk.x mk.y).map h (fun e => map_ne_blk h HX2.out.tx e))
  have HZ3 := Lib.hid (HZ2.out.trans ((rbW_chg W2 g kk mk.x mk.y).mono (T := fun j => S j ∨ j = g) (fun _ h => .inr h)) (Grew.refl _ _))
  have HW3 : Hid (rbW W2 g kk mk.x mk.y = ((((((W2.setCell ⟨g, 0, none⟩ (.map (some kk))).setCell ⟨g, 1, none⟩ (.map (some (kk + 1)))).setCell ⟨g, 2, none⟩ (.map (some (kk + 2)))).setCell ⟨g, 3, none⟩ (.map (some (kk + 3)))).setCell ⟨g, 4, none⟩ (.bool mk.x)).setCell ⟨g, 5, none⟩ (.bool mk.y))) := Lib.hid rfl
  rw [← HW3.out]
  generalize rbW W2 g kk mk.x mk.y = W3 at *
  have HSo := Lib.hid (sortU0 W3 t.inner HIn.out)
  clear z0 z1 z2 z3 z4 z5 y0 y1 y2 y3 y4 y5 y7 HX2 HM2 HSt2 HW3 HIn HX1 HM1 HN1
  go_wp2_with (first
    | (go_at_call 58; refine (keysU_any _ _).mono ?_; rintro e w1 ⟨rfl, rfl⟩)
    | (go_at_call 57; refine stop ?_))
  unfold Stop
  refine HSo.out.mono ?_
  rintro e W5 ⟨⟨A5, c5, rfl⟩, hb5⟩
  have hb : Below W3.heap.size W3 W5 := ((Below.refl _ W3).alloc (Nat.le_refl _) _).trans (hb5.mono (by simp))
  have HX5 := Lib.hid (HX3.out.more_ hb)
  have HM5 := Lib.hid (HM3.out.more_ hb)
  have HZ5 := Lib.hid (HZ3.out.below hb)
  have HPl := Lib.hid (place_any HX5.out hl hw hT HSl.out.1 HSl.out.2 hcv)
  clear hb hb5 HSo HX3 HM3
  go_wp2_with fail
  refine wp_loop_rounds 1 ?_
  rw [rounds_succ]
  go_wp2_with fail
  refine HPl.out.mono ?_
  rintro e W6 ⟨ks, hp, rfl, S6, hx6, hc6, hg6⟩
  have HP := Lib.hid hp
  have HX6 := Lib.hid hx6
  have HM6 := Lib.hid (HM5.out.step hc6 hg6 ⟨_, _, HX5.out.maps.words⟩)
  have HZ6 := Lib.hid (HZ5.out.trans (hc6.mono (T := fun j => S j ∨ j = g) (fun _ h => .inl h)) (Grew.refl _ _))
  have HG6 : Hid (Grew S S6 w) := Lib.hid (fun k hk => (hg6 k hk).imp id (fun h => Nat.le_trans HZ5.out.size h))
  have HRl := Lib.hid (release_none W6 g _ _ hx6.tx rfl hx6.maps.held)
  clear hp hx6 hc6 hg6 HPl HX5 HM5
  go_wp2_with fail
  refine HRl.out.mono ?_
  rintro e W7 ⟨rfl, hb7⟩
  have HX7 := Lib.hid (HX6.out.more_ hb7)
  have HZ7 := Lib.hid (HZ6.out.below hb7)
  have HM7 := Lib.hid (HM6.out.more_ hb7)
  have HE7 := Lib.hid (err_dev HX7.out.base.dev (j := 0) (by omega))
  have r6 : W7.cell? ⟨g, 6, none⟩ = some (.pointer (some ⟨c.x.m, 0, none⟩)) := HX7.out.tx.cell 6
  have r0 : W7.cell? ⟨c.x.m, 0, none⟩ = some (.pointer (some ⟨c.a.th 0, 0, none⟩)) := HX7.out.base.sys.m.cell 0
  clear hb7 HX6 HM6 HRl
  go_wp2_with fail
  refine HE7.out.mono ?_
  rintro e W8 ⟨rfl, rfl⟩
  go_wp2
  go_ret
  obtain ⟨hk', hid', _⟩ := HIdm.out
  have hmk := HMk.out
  have ht1 := HT1.out
  subst ht1
  subst hmk
  exact ⟨k, hk, kk, _, S6, ks, HId.out, rfl, HP.out, HX7.out, HM7.out, HZ7.out, HG6.out, HVB.out, HKw.out⟩
theorem rollback_undo {c : CX} {g : Nat} {w : World} {S : Fp} {t : TX} {D : DataW Unit} {n : Nat} {cur : Nat → Nat} {T : Nat} {l : List Mk} (h : TxS c g w S t D n cur T) (hop : t.open_ = true) (hmode : t.mode = 2) (hmk : Mks c w S t l) (hll : l.length ≤ 1000) (sp : Nat) (hsp : ∃ m ∈ l, m.id = sp)
    {ws : List (Nat × Nat)} (hl : LogU cur 30 ws) (hw : EntO ws) (hT : T ≤ 1000000) (hsz : ∀ m ∈ l, Maps.size m.D ≤ 50 ∧ ∀ o ∈ uKeys m.D, OffOk 152 30 26 o) (hcv : ∀ i, rbC cur ws i < 18446744073709551616) :
    Calls Tryz.prog 16 #[.pointer (some ⟨g, 0, none⟩), .int .i64 (sp : Int)] w (RetRb c g t cur T l ws (sp : Int)) :=
  (rollback_undo_z h hop hmode hmk hll sp hsp hl hw hT hsz hcv).mono (fun _ _ ⟨k, hk, kk, v, S', ks, h1, h2, h3, h4, h5, _⟩ => ⟨k, hk, kk, v, S', ks, h1, h2, h3, h4, h5⟩)
end Go.Proofs.YtklpeghhgoeeiaaGreatDoor
/- tx: end; alloc: Settle of nothing. -/
namespace Go.Proofs.YtklpeghhgoeeiaaGreatDoor
open Go.RowKit Go.Maps Go.Shelf
/-- The cells of a transaction that has ended. -/
def endCells (m : Nat) (t : TX) : Array Value := #[.map none, .map none, .map none, .map none, .bool t.outside, .bool t.surplus, .pointer (some ⟨m, 0, none⟩), .int .u8 (t.mode : Int), .bool false, .slice none 0 0, .int .i64 (t.ids : Int), .map none, .map none, t.tail]
/-- A transaction that has ended. -/
structure TxE (c : CX) (g : Nat) (w : World) (S : Fp) (t : TX) (cur : Nat → Nat) (T : Nat) : Prop where
  base : Base c w S false (some ⟨g, 0, none⟩) cur T
  tx : Blk w g 104 (endCells c.x.m t)
  outg : ¬ S g
  newg : c.w0.heap.size ≤ g
theorem TxE.more_ {c : CX} {g : Nat} {w w' : World} {S : Fp} {t : TX} {cur : Nat → Nat} {T : Nat} (h : TxE c g w S t cur T) (hb : Below w.heap.size w w') : TxE c g w' S t cur T :=
  ⟨h.base.more_ hb, (Chg.of_below (S := Fp.no) hb).blk h.tx (fun h => h), h.outg, h.newg⟩
def endW (W : World) (g : Nat) : World := (((((((W.setCell ⟨g, 8, none⟩ (.bool false)).setCell ⟨g, 9, none⟩ (.slice none 0 0)).setCell ⟨g, 11, none⟩ (.map none)).setCell ⟨g, 12, none⟩ (.map none)).setCell ⟨g, 0, none⟩ (.map none)).setCell ⟨g, 1, none⟩ (.map none)).setCell ⟨g, 2, none⟩ (.map none)).setCell ⟨g, 3, none⟩ (.map none)
theorem endW_chg (W : World) (g : Nat) : Chg (fun j => j = g) W (endW W g) :=
  ((((((((Chg.refl (fun j => j = g) W).setCell (p := ⟨g, 8, none⟩) (.inl rfl) _).setCell (p := ⟨g, 9, none⟩) (.inl rfl) _).setCell (p := ⟨g, 11, none⟩) (.inl rfl) _).setCell (p := ⟨g, 12, none⟩) (.inl rfl) _).setCell (p := ⟨g, 0, none⟩) (.inl rfl) _).setCell (p := ⟨g, 1, none⟩) (.inl rfl) _).setCell (p := ⟨g, 2, none⟩) (.inl rfl) _).setCell (p := ⟨g, 3, none⟩) (.inl rfl) _
theorem endCells_eq (m : Nat) (t : TX) : ((((((((txCells m t).setIfInBounds 8 (.bool false)).setIfInBounds 9 (.slice none 0 0)).setIfInBounds 11 (.map none)).setIfInBounds 12 (.map none)).setIfInBounds 0 (.map none)).setIfInBounds 1 (.map none)).setIfInBounds 2 (.map none)).setIfInBounds 3 (.map none) = endCells m t := by
  simp [txCells, endCells]
theorem endW_blk {w : World} {g m : Nat} {t : TX} (h : Blk w g 104 (txCells m t)) : Blk (endW w g) g 104 (endCells m t) := by
  have h8 := (((((((h.set_ 8 (.bool false)).set_ 9 (.slice none 0 0)).set_ 11 (.map none)).set_ 12 (.map none)).set_ 0 (.map none)).set_ 1 (.map none)).set_ 2 (.map none)).set_ 3 (.map none)
  rw [endCells_eq] at h8
  exact h8
theorem endW_base {c : CX} {g : Nat} {w : World} {S : Fp} {t : TX} {D : DataW Unit} {n : Nat} {cur : Nat → Nat} {T : Nat} (h : TxS c g w S t D n cur T) :
    Base c (endW w g) S true (some ⟨g, 0, none⟩) cur T ∧ Blk (endW w g) g 104 (endCells c.x.m t) := by
  have hb := h.base
  refine ⟨hb.chg (endW_chg w g) (fun k hk e => h.outg (e ▸ hk)) ⟨hb.sys.r.ne_ h.tx (by decide), hb.sys.u.ne_ h.tx (by decide), hb.sys.h.ne_ h.tx (by decide), hb.sys.m.ne_ h.tx (by decide)⟩ (hb.blk.ne_ h.tx (by decide)) (fun k hk => by rw [hk]; exact h.newg), endW_blk h.tx⟩
theorem TxE.of {c : CX} {g : Nat} {w : World} {S : Fp} {t : TX} {D : DataW Unit} {n : Nat} {cur : Nat → Nat} {T : Nat} (h : TxS c g w S t D n cur T) : TxE c g ((endW w g).setCell ⟨c.x.h, 7, none⟩ (.bool false)) S t cur T := by
  obtain ⟨h1, h2⟩ := endW_base h
  exact ⟨h1.lock false, (Chg.refl (fun j => j = c.x.h) (endW w g)).setCell (p := ⟨c.x.h, 7, none⟩) (.inl rfl) (.bool false) |>.blk h2 (h2.ne_ h1.sys.h (by decide)), h.outg, h.newg⟩
def RetEnd (c : CX) (g : Nat) (S : Fp) (t : TX) (cur : Nat → Nat) (T : Nat) (v : Value) (e : Ending) (w' : World) : Prop := e = .returned v ∧ TxE c g w' S t cur T
/-- What the end of a transaction turns. -/
def ZE (c : CX) (g : Nat) : Fp := fun j => j = g ∨ j = c.x.h
def RetEndZ (c : CX) (g : Nat) (w : World) (S : Fp) (t : TX) (cur : Nat → Nat) (T : Nat) (v : Value) (e : Ending) (w' : World) : Prop := e = .returned v ∧ TxE c g w' S t cur T ∧ Chg (ZE c g) w w'
set_option maxRecDepth 100000 in
set_option maxHeartbeats 1000000 in
theorem end_z {c : CX} {g : Nat} {w : World} {S : Fp} {t : TX} {D : DataW Unit} {n : Nat} {cur : Nat → Nat} {T : Nat} (h : TxS c g w S t D n cur T) :
    Calls Tryz.prog 70 #[.pointer (some ⟨g, 0, none⟩)] w (RetEndZ c g w S t cur T (.tuple #[])) := by
  have c11 : w.cell? ⟨g, 11, none⟩ = some (.map (some t.held)) := h.tx.cell 11
  have HM := Lib.hid h.maps.held
  have HX := Lib.hid h
  clear h
  go_enter Tryz.func70, Tryz.ntmps70
  go_wp2_with (first
    | (at_range; refine wpList_range_own _ rfl _ 97 rfl 35 124 keyedU Tryz.underlying97 _ t.held 0 (.map []) rfl HM.out ?_; intro w0 hrg0 hg0 hs0; have HR := Lib.hid hrg0; have HX0 := Lib.hid (HX.out.more_ ((Below.refl _ w).grown hg0 (Nat.le_refl _) (fun k e => by cases e))); have HZ0 := Lib.hid (Chg.of_below (S := ZE c g) ((Below.refl _ w).grown hg0 (Nat.le_refl _) (fun k e => by cases e))); clear hrg0 hg0 hs0)
    | go_in)
  have z8 : w0.frozen? ⟨g, 8, none⟩ = false := HX0.out.tx.frozen 8
  have z9 : w0.frozen? ⟨g, 9, none⟩ = false := HX0.out.tx.frozen 9
  have z11 : w0.frozen? ⟨g, 11, none⟩ = false := HX0.out.tx.frozen 11
  have z12 : w0.frozen? ⟨g, 12, none⟩ = false := HX0.out.tx.frozen 12
  have z0 : w0.frozen? ⟨g, 0, none⟩ = false := HX0.out.tx.frozen 0
  have z1 : w0.frozen? ⟨g, 1, none⟩ = false := HX0.out.tx.frozen 1
  have z2 : w0.frozen? ⟨g, 2, none⟩ = false := HX0.out.tx.frozen 2
  have z3 : w0.frozen? ⟨g, 3, none⟩ = false := HX0.out.tx.frozen 3
  have y8 : w0.cell? ⟨g, 8, none⟩ = some (.bool t.open_) := HX0.out.tx.cell 8
  have y9 : w0.cell? ⟨g, 9, none⟩ = some t.marks := HX0.out.tx.cell 9
  have y11 : w0.cell? ⟨g, 11, none⟩ = some (.map (some t.held)) := HX0.out.tx.cell 11
  have y12 : w0.cell? ⟨g, 12, none⟩ = some (.map (some t.cover)) := HX0.out.tx.cell 12
  have y0 : w0.cell? ⟨g, 0, none⟩ = some (.map (some t.words)) := HX0.out.tx.cell 0
  have y1 : w0.cell? ⟨g, 1, none⟩ = some (.map (some t.inner)) := HX0.out.tx.cell 1
  have y2 : w0.cell? ⟨g, 2, none⟩ = some (.map (some t.own)) := HX0.out.tx.cell 2
  have y3 : w0.cell? ⟨g, 3, none⟩ = some (.map (some t.freed)) := HX0.out.tx.cell 3
  have y6 : w0.cell? ⟨g, 6, none⟩ = some (.pointer (some ⟨c.x.m, 0, none⟩)) := HX0.out.tx.cell 6
  have m3 : w0.cell? ⟨c.x.m, 3, none⟩ = some (.pointer (some ⟨c.x.h, 0, none⟩)) := HX0.out.base.sys.m.cell 3
  have h7 : w0.cell? ⟨c.x.h, 7, none⟩ = some (.bool true) := HX0.out.base.sys.h.cell 7
  have zh : w0.frozen? ⟨c.x.h, 7, none⟩ = false := HX0.out.base.sys.h.frozen 7
  have ne1 : c.x.m ≠ g := fun e => HX0.out.base.sys.m.ne_ HX0.out.tx (by decide) e
  have ne2 : c.x.h ≠ g := fun e => HX0.out.base.sys.h.ne_ HX0.out.tx (by decide) e
  have HE := Lib.hid (TxE.of HX0.out)
  have HZ := Lib.hid ((HZ0.out.trans ((endW_chg w0 g).mono (T := ZE c g) (fun _ h => .inl h)) (Grew.refl _ _)).setCell (p := ⟨c.x.h, 7, none⟩) (.inl (.inr rfl)) (.bool false))
  unfold endW at HE HZ
  clear HX HX0 HZ0 c11 HM
  refine wp_loop_rounds 1 ?_
  rw [rounds_succ]
  go_wp2_with (first
    | (at_next; refine wpList_next_ranges _ rfl _ rfl 35 keyedU oneR encW id (fun key kl hk => by obtain ⟨x, hx, _⟩ := keyOf_u64 Tryz.underlying35 hk; exact ⟨x, hx⟩) (fun v _ _ => ⟨v, rfl⟩) t.held _ 0 _ _ _ rfl HR.out ?_ ?_)
    | go_in)
  · intro _ _
    go_wp2
    go_end0
    go_wp2
    go_end0
    exact ⟨rfl, HE.out, HZ.out⟩
  · intro x c kl yd yp w2 cnt2 hkey hlk
    exact absurd (show (false : Bool) = true from hlk) (by decide)
theorem end_any {c : CX} {g : Nat} {w : World} {S : Fp} {t : TX} {D : DataW Unit} {n : Nat} {cur : Nat → Nat} {T : Nat} (h : TxS c g w S t D n cur T) :
    Calls Tryz.prog 70 #[.pointer (some ⟨g, 0, none⟩)] w (RetEnd c g S t cur T (.tuple #[])) :=
  (end_z h).mono (fun _ _ ⟨h1, h2, _⟩ => ⟨h1, h2⟩)
end Go.Proofs.YtklpeghhgoeeiaaGreatDoor
