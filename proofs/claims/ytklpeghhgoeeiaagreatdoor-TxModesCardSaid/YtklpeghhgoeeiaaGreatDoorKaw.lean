/- The walks and laws that the claim leans on, part 23: each part says ahead of its lines what it holds. -/
import Derived.Test.YtklpeghhgoeeiaaGreatDoorKav
/- tx: the calls of a transaction that has ended. -/
namespace Go.Proofs.YtklpeghhgoeeiaaGreatDoor
open Go.RowKit Go.Maps Go.Sort Go.Shelf
section
variable {c : CX} {g : Nat} {w : World} {S : Fp} {t : TX} {cur : Nat → Nat} {T : Nat}
theorem TxE.shut (h : TxE c g w S t cur T) : w.cell? ⟨g, 8, none⟩ = some (.bool false) := h.tx.cell 8
set_option maxRecDepth 100000 in
set_option maxHeartbeats 1000000 in
theorem done_store (h : TxE c g w S t cur T) (o v : Int) : Calls Tryz.prog 13 #[.pointer (some ⟨g, 0, none⟩), .int .u64 o, .int .u64 v] w fun e w' => e = .returned (.tuple #[]) ∧ w = w' := by
  have c8 := h.shut
  clear h
  go_enter Tryz.func13, Tryz.ntmps13
  go_wp2
  refine bodyPost_ret (results_none rfl _ _ _) rfl ?_
  exact ⟨rfl, rfl⟩
set_option maxRecDepth 100000 in
set_option maxHeartbeats 1000000 in
theorem done_load (h : TxE c g w S t cur T) (o : Nat) (h8 : o % 8 = 0) (hlt : o < 64 * 152) : Calls Tryz.prog 15 #[.pointer (some ⟨g, 0, none⟩), .int .u64 (o : Int)] w fun e w' => e = .returned (.int .u64 (cur (o / 8) : Int)) ∧ w = w' := by
  have c8 := h.shut
  have c6 : w.cell? ⟨g, 6, none⟩ = some (.pointer (some ⟨c.x.m, 0, none⟩)) := h.tx.cell 6
  have m0 : w.cell? ⟨c.x.m, 0, none⟩ = some (.pointer (some ⟨c.a.th 0, 0, none⟩)) := h.base.sys.m.cell 0
  have HL := Lib.hid (load_dev h.base.dev (j := 0) (by omega) o h8 hlt)
  clear h h8 hlt
  generalize cur (o / 8) = v at *
  go_enter Tryz.func15, Tryz.ntmps15
  go_wp2_with fail
  refine HL.out.mono ?_
  rintro e w1 ⟨rfl, rfl⟩
  go_wp2
  go_ret
  exact ⟨rfl, rfl⟩
set_option maxRecDepth 100000 in
set_option maxHeartbeats 1000000 in
theorem done_alloc (h : TxE c g w S t cur T) (n k : Int) : Calls Tryz.prog 30 #[.pointer (some ⟨g, 0, none⟩), .int .i64 n, .int .u8 k] w fun e w' => e = .returned (.tuple #[.int .u64 0, .int .i64 8]) ∧ w = w' := by
  have c8 := h.shut
  clear h
  go_enter Tryz.func30, Tryz.ntmps30
  go_wp2
  go_ret2
  exact ⟨rfl, rfl⟩
set_option maxRecDepth 100000 in
set_option maxHeartbeats 1000000 in
theorem done_publish (h : TxE c g w S t cur T) (x y z : Value) : Calls Tryz.prog 25 #[.pointer (some ⟨g, 0, none⟩), x, y, z] w fun e w' => e = .returned (.int .i64 8) ∧ w = w' := by
  have c8 := h.shut
  clear h
  go_enter Tryz.func25, Tryz.ntmps25
  go_wp2
  go_ret
  exact ⟨rfl, rfl⟩
set_option maxRecDepth 100000 in
set_option maxHeartbeats 1000000 in
theorem done_save (h : TxE c g w S t cur T) : Calls Tryz.prog 14 #[.pointer (some ⟨g, 0, none⟩)] w fun e w' => e = .returned (.int .i64 0) ∧ w = w' := by
  have c8 := h.shut
  clear h
  go_enter Tryz.func14, Tryz.ntmps14
  go_wp2
  go_ret
  exact ⟨rfl, rfl⟩
set_option maxRecDepth 100000 in
set_option maxHeartbeats 1000000 in
theorem done_commit (h : TxE c g w S t cur T) : Calls Tryz.prog 17 #[.pointer (some ⟨g, 0, none⟩)] w fun e w' => e = .returned (.int .i64 8) ∧ w = w' := by
  have c8 := h.shut
  clear h
  go_enter Tryz.func17, Tryz.ntmps17
  go_wp2
  go_ret
  exact ⟨rfl, rfl⟩
set_option maxRecDepth 100000 in
set_option maxHeartbeats 1000000 in
theorem done_abort (h : TxE c g w S t cur T) : Calls Tryz.prog 31 #[.pointer (some ⟨g, 0, none⟩)] w fun e w' => e = .returned (.int .i64 8) ∧ w = w' := by
  have c8 := h.shut
  clear h
  go_enter Tryz.func31, Tryz.ntmps31
  go_wp2
  go_ret
  exact ⟨rfl, rfl⟩
set_option maxRecDepth 100000 in
set_option maxHeartbeats 1000000 in
theorem done_open (h : TxE c g w S t cur T) : Calls Tryz.prog 26 #[.pointer (some ⟨g, 0, none⟩)] w fun e w' => e = .returned (.bool false) ∧ w = w' := by
  have c8 := h.shut
  clear h
  go_enter Tryz.func26, Tryz.ntmps26
  go_wp2
  go_ret
  exact ⟨rfl, rfl⟩
set_option maxRecDepth 100000 in
set_option maxHeartbeats 1000000 in
theorem done_active (h : TxE c g w S t cur T) : Calls Tryz.prog 29 #[.pointer (some ⟨c.x.m, 0, none⟩)] w fun e w' => e = .returned (.bool false) ∧ w = w' := by
  have m4 : w.cell? ⟨c.x.m, 4, none⟩ = some (.pointer (some ⟨g, 0, none⟩)) := h.base.sys.m.cell 4
  have c8 := h.shut
  clear h
  go_enter Tryz.func29, Tryz.ntmps29
  go_wp2
  go_ret
  exact ⟨rfl, rfl⟩
set_option maxRecDepth 100000 in
set_option maxHeartbeats 1000000 in
theorem done_free (h : TxE c g w S t cur T) (p : Int) : Calls Tryz.prog 34 #[.pointer (some ⟨g, 0, none⟩), .int .u64 p] w fun e w' => e = .returned (.int .i64 8) ∧ Below w.heap.size w w' := by
  have HB := Lib.hid ((Below.refl _ w).alloc (Nat.le_refl _) (.cells #[.int .u64 p] 64))
  have HP := Lib.hid (done_publish (h.more_ HB.out) (.slice none 0 0) (.slice none 0 0) (.slice (some ⟨w.heap.size, 0, none⟩) 1 1))
  clear h
  go_enter Tryz.func34, Tryz.ntmps34
  go_wp2_with fail
  refine HP.out.mono ?_
  rintro e w1 ⟨rfl, rfl⟩
  go_wp2
  go_ret
  exact ⟨rfl, HB.out⟩
set_option maxRecDepth 100000 in
set_option maxHeartbeats 1000000 in
theorem done_rollback (h : TxE c g w S t cur T) (k : Int) : Calls Tryz.prog 16 #[.pointer (some ⟨g, 0, none⟩), .int .i64 k] w fun e w' => e = .returned (.int .i64 8) ∧ Below w.heap.size w w' := by
  have HB := Lib.hid ((Below.refl _ w).alloc (Nat.le_refl _) (.cells #[.int .i64 k] 3))
  have c8 := (h.more_ HB.out).shut
  clear h
  go_enter Tryz.func16, Tryz.ntmps16
  go_wp2
  go_ret
  exact ⟨rfl, HB.out⟩
end
end Go.Proofs.YtklpeghhgoeeiaaGreatDoor
/- tx: a store to one word too many; Writes, Open of an open transaction; Begin beside an open one; calls of no transaction. -/
namespace Go.Proofs.YtklpeghhgoeeiaaGreatDoor
open Go.RowKit Go.Maps Go.Sort Go.Shelf
set_option maxRecDepth 100000 in
set_option maxHeartbeats 2000000 in
theorem store_surplus {c : CX} {g : Nat} {w : World} {S : Fp} {t : TX} {D : DataW Unit} {n : Nat} {cur : Nat → Nat} {T : Nat} (h : TxS c g w S t D n cur T) (hop : t.open_ = true) (o v : Nat) (h8 : o % 8 = 0) (hlt : o < 64 * 152) (hD : has D (kU o) = false) (hsz : 96 ≤ Maps.size D) :
    Calls Tryz.prog 13 #[.pointer (some ⟨g, 0, none⟩), .int .u64 (o : Int), .int .u64 (v : Int)] w fun e w' => e = .returned (.tuple #[]) ∧ TxS c g w' S { t with surplus := true } D n cur T ∧ Chg (fun j => j = g) w w' := by
  have hov : o < 18446744073709551616 := by omega
  have HWd := Lib.hid (word_in h o h8 hlt)
  have HMi := Lib.hid (mine_none h o hov)
  obtain ⟨v1, x1, p1, hlk, _⟩ := look_cell h.maps.words hov
  rw [hD] at hlk
  have hbw : Below w.heap.size w (w.alloc (.cells #[.int .u64 (v1 : Int), .int .u64 (x1 : Int), .bool p1] 107)) := (Below.refl _ w).alloc (Nat.le_refl _) _
  have hxw := h.more_ hbw
  have hlen : ∀ ty, (Builtin.len_ #[95] ty #[.map (some t.words)]).run Tryz.prog (w.alloc (.cells #[.int .u64 (v1 : Int), .int .u64 (x1 : Int), .bool p1] 107)) = .ok (.int .i64 (Maps.size D)) (w.alloc (.cells #[.int .u64 (v1 : Int), .int .u64 (x1 : Int), .bool p1] 107)) := fun ty => hxw.maps.words.len Tryz.underlying95 ty
  have e96 : decide (96 ≤ (Maps.size D : Int)) = true := decide_eq_true (by omega)
  have c8 : w.cell? ⟨g, 8, none⟩ = some (.bool true) := (h.tx.cell 8).trans (by simp [txCells, hop])
  have c0 : w.cell? ⟨g, 0, none⟩ = some (.map (some t.words)) := h.tx.cell 0
  have d0 : (w.alloc (.cells #[.int .u64 (v1 : Int), .int .u64 (x1 : Int), .bool p1] 107)).cell? ⟨g, 0, none⟩ = some (.map (some t.words)) := hxw.tx.cell 0
  have d5 : (w.alloc (.cells #[.int .u64 (v1 : Int), .int .u64 (x1 : Int), .bool p1] 107)).cell? ⟨g, 5, none⟩ = some (.bool t.surplus) := hxw.tx.cell 5
  have z5 : (w.alloc (.cells #[.int .u64 (v1 : Int), .int .u64 (x1 : Int), .bool p1] 107)).frozen? ⟨g, 5, none⟩ = false := hxw.tx.frozen 5
  have hlg : g < w.heap.size := h.tx.lt
  have hx5 := h.set 5 (.bool true) { t with surplus := true } rfl ⟨rfl, rfl, rfl, rfl, rfl, rfl⟩
  have HX := Lib.hid (hx5.more_ ((Below.refl _ _).alloc (Nat.le_refl _) (.cells #[.int .u64 (v1 : Int), .int .u64 (x1 : Int), .bool p1] 107)))
  have HZ : Hid (Chg (fun j => j = g) w ((w.setCell ⟨g, 5, none⟩ (.bool true)).alloc (.cells #[.int .u64 (v1 : Int), .int .u64 (x1 : Int), .bool p1] 107))) := Lib.hid (((Chg.refl (fun j => j = g) w).setCell (p := ⟨g, 5, none⟩) (.inl rfl) _).alloc _)
  clear h hxw hx5 hbw hop hD
  unfold cellV at hlk
  go_enter Tryz.func13, Tryz.ntmps13
  go_wp2_with (first
    | (go_at_call 51; refine HWd.out.mono ?_; rintro e w1 ⟨rfl, rfl⟩)
    | (go_at_call 52; refine HMi.out.mono ?_; rintro e w1 ⟨rfl, rfl⟩)
    | go_in)
  refine bodyPost_ret (results_none rfl _ _ _) rfl ?_
  exact ⟨rfl, HX.out, HZ.out⟩
set_option maxRecDepth 100000 in
set_option maxHeartbeats 1000000 in
theorem writes_open {c : CX} {g : Nat} {w : World} {S : Fp} {t : TX} {D : DataW Unit} {n : Nat} {cur : Nat → Nat} {T : Nat} (h : TxS c g w S t D n cur T) (hop : t.open_ = true) :
    Calls Tryz.prog 23 #[.pointer (some ⟨g, 0, none⟩)] w fun e w' => e = .returned (.int .i64 (Maps.size D : Int)) ∧ w = w' := by
  have c8 : w.cell? ⟨g, 8, none⟩ = some (.bool true) := (h.tx.cell 8).trans (by simp [txCells, hop])
  have c0 : w.cell? ⟨g, 0, none⟩ = some (.map (some t.words)) := h.tx.cell 0
  have hlen : ∀ ty, (Builtin.len_ #[95] ty #[.map (some t.words)]).run Tryz.prog w = .ok (.int .i64 (Maps.size D)) w := fun ty => h.maps.words.len Tryz.underlying95 ty
  clear h hop
  go_enter Tryz.func23, Tryz.ntmps23
  go_wp2_with go_in
  go_ret
  exact ⟨rfl, rfl⟩
theorem writes_done {c : CX} {g : Nat} {w : World} {S : Fp} {t : TX} {cur : Nat → Nat} {T : Nat} (h : TxE c g w S t cur T) :
    Calls Tryz.prog 23 #[.pointer (some ⟨g, 0, none⟩)] w fun e w' => e = .returned (.int .i64 0) ∧ w = w' := by
  have c8 := h.shut
  clear h
  go_enter Tryz.func23, Tryz.ntmps23
  go_wp2_with go_in
  go_ret
  exact ⟨rfl, rfl⟩
theorem writes_nil (w : World) : Calls Tryz.prog 23 #[.pointer none] w fun e w' => e = .returned (.int .i64 0) ∧ w = w' := by
  go_enter Tryz.func23, Tryz.ntmps23
  go_wp2_with go_in
  go_ret
  exact ⟨rfl, rfl⟩
set_option maxRecDepth 100000 in
theorem store_nil (w : World) (o v : Int) : Calls Tryz.prog 13 #[.pointer none, .int .u64 o, .int .u64 v] w fun e w' => e = .returned (.tuple #[]) ∧ w = w' := by
  go_enter Tryz.func13, Tryz.ntmps13
  go_wp2
  refine bodyPost_ret (results_none rfl _ _ _) rfl ?_
  exact ⟨rfl, rfl⟩
set_option maxRecDepth 100000 in
theorem rollback_nil (w : World) (k : Int) : Calls Tryz.prog 16 #[.pointer none, .int .i64 k] w fun e w' => e = .returned (.int .i64 8) ∧ Below w.heap.size w w' := by
  have HB := Lib.hid ((Below.refl _ w).alloc (Nat.le_refl _) (.cells #[.int .i64 k] 3))
  go_enter Tryz.func16, Tryz.ntmps16
  go_wp2_with go_in
  go_ret
  exact ⟨rfl, HB.out⟩
theorem open_open {c : CX} {g : Nat} {w : World} {S : Fp} {t : TX} {D : DataW Unit} {n : Nat} {cur : Nat → Nat} {T : Nat} (h : TxS c g w S t D n cur T) (hop : t.open_ = true) :
    Calls Tryz.prog 26 #[.pointer (some ⟨g, 0, none⟩)] w fun e w' => e = .returned (.bool true) ∧ w = w' := by
  have c8 : w.cell? ⟨g, 8, none⟩ = some (.bool true) := (h.tx.cell 8).trans (by simp [txCells, hop])
  clear h hop
  go_enter Tryz.func26, Tryz.ntmps26
  go_wp2
  go_ret
  exact ⟨rfl, rfl⟩
theorem publish_full {c : CX} {g : Nat} {w : World} {S : Fp} {t : TX} {D : DataW Unit} {n : Nat} {cur : Nat → Nat} {T : Nat} (h : TxS c g w S t D n cur T) (hop : t.open_ = true) (hout : t.outside = false) (hsur : t.surplus = true) (x y z : Value) :
    Calls Tryz.prog 25 #[.pointer (some ⟨g, 0, none⟩), x, y, z] w fun e w' => e = .returned (.int .i64 9) ∧ w = w' := by
  have c8 : w.cell? ⟨g, 8, none⟩ = some (.bool true) := (h.tx.cell 8).trans (by simp [txCells, hop])
  have HE := Lib.hid (xErr_any h)
  rw [show errT t = 9 by simp [errT, hout, hsur]] at HE
  clear h hop hout hsur
  go_enter Tryz.func25, Tryz.ntmps25
  go_wp2_with (first
    | (go_at_call 22; refine HE.out.mono ?_; rintro e w1 ⟨rfl, rfl⟩)
    | go_in)
  go_ret
  exact ⟨rfl, rfl⟩
set_option maxRecDepth 100000 in
set_option maxHeartbeats 2000000 in
theorem begin_busy2 {c : CX} {w : World} {S : Fp} {last : Option Addr} {cur : Nat → Nat} {T : Nat} (h : Base c w S true last cur T) :
    Calls Tryz.prog 12 #[.pointer (some ⟨c.x.m, 0, none⟩), .int .u8 2] w fun e w' => e = .returned (.tuple #[.pointer none, .int .i64 7]) ∧ w = w' := by
  have HLk := Lib.hid (lock_busy _ _ _ _ _ _ _ w h.sys.h)
  have m0 : w.cell? ⟨c.x.m, 0, none⟩ = some (.pointer (some ⟨c.a.th 0, 0, none⟩)) := h.sys.m.cell 0
  have m1 : w.cell? ⟨c.x.m, 1, none⟩ = some (.pointer (some ⟨c.x.r, 0, none⟩)) := h.sys.m.cell 1
  have m2 : w.cell? ⟨c.x.m, 2, none⟩ = some (.pointer (some ⟨c.x.u, 0, none⟩)) := h.sys.m.cell 2
  have m3 : w.cell? ⟨c.x.m, 3, none⟩ = some (.pointer (some ⟨c.x.h, 0, none⟩)) := h.sys.m.cell 3
  have v0 : w.cell? ⟨c.x.u, 0, none⟩ = some (memV c.a) := h.sys.u.cell 0
  have v2 : w.cell? ⟨c.x.u, 2, none⟩ = some (.int .i64 26) := h.sys.u.cell 2
  have hq := eqMem (some ⟨c.a.th 0, 0, none⟩)
  obtain ⟨ls, exe, per, cs, lsC, hdc, hnt⟩ := h.dev
  obtain ⟨f0, _, _, _, f4⟩ := hdc.facts (j := 0) (by omega)
  clear hdc hnt h
  unfold memV at v0
  go_enter Tryz.func12, Tryz.ntmps12
  go_wp2_with (first
    | (go_at_call 49; refine HLk.out.mono ?_; rintro e w1 ⟨rfl, rfl⟩)
    | go_in)
  go_ret2
  exact ⟨rfl, rfl⟩
end Go.Proofs.YtklpeghhgoeeiaaGreatDoor
/- tx: Rollback in mode Redo; Rollback to a number that is no savepoint's. -/
namespace Go.Proofs.YtklpeghhgoeeiaaGreatDoor
open Go.RowKit Go.Maps Go.Sort Go.Shelf
def RetRrZ (c : CX) (g : Nat) (w : World) (t : TX) (S' : Fp) (cur : Nat → Nat) (T : Nat) (l : List Mk) (sp : Int) (e : Ending) (w' : World) : Prop :=
  ∃ (k : Nat) (hk : k < l.length) (kk : Nat) (v : Value), ((l[k]).id : Int) = sp ∧ e = .returned (.int .i64 0) ∧ TxS c g w' S' (rbT t l[k] kk v) (l[k]).D (l[k]).n cur T ∧ Mks c w' S' (rbT t l[k] kk v) (l.take (k + 1)) ∧ Chg (fun j => S' j ∨ j = g) w w' ∧ v.ownBlock = t.marks.ownBlock ∧ w.heap.size ≤ kk
set_option maxRecDepth 100000 in
set_option maxHeartbeats 2000000 in
theorem rollback_redo_z {c : CX} {g : Nat} {w : World} {S : Fp} {t : TX} {D : DataW Unit} {n : Nat} {cur : Nat → Nat} {T : Nat} {l : List Mk} (h : TxS c g w S t D n cur T) (hop : t.open_ = true) (hmode : t.mode = 1) (hmk : Mks c w S t l) (hll : l.length ≤ 1000) (sp : Nat) (hsp : ∃ m ∈ l, m.id = sp) :
    Calls Tryz.prog 16 #[.pointer (some ⟨g, 0, none⟩), .int .i64 (sp : Int)] w (RetRrZ c g w t S cur T l (sp : Int)) := by
  obtain ⟨A, cc, hmv⟩ := own_slice hmk.row
  have hba : Below w.heap.size w (w.alloc (.cells #[.int .i64 (sp : Int)] 3)) := (Below.refl _ w).alloc (Nat.le_refl _) _
  have hxa := h.more_ hba
  have hma := hmk.more_ hba
  have c8 : (w.alloc (.cells #[.int .i64 (sp : Int)] 3)).cell? ⟨g, 8, none⟩ = some (.bool true) := (hxa.tx.cell 8).trans (by simp [txCells, hop])
  have c9 : (w.alloc (.cells #[.int .i64 (sp : Int)] 3)).cell? ⟨g, 9, none⟩ = some (.slice A l.length cc) := (hxa.tx.cell 9).trans (by simp [txCells, hmv])
  have c6 : (w.alloc (.cells #[.int .i64 (sp : Int)] 3)).cell? ⟨g, 6, none⟩ = some (.pointer (some ⟨c.x.m, 0, none⟩)) := hxa.tx.cell 6
  have m0 : (w.alloc (.cells #[.int .i64 (sp : Int)] 3)).cell? ⟨c.x.m, 0, none⟩ = some (.pointer (some ⟨c.a.th 0, 0, none⟩)) := hxa.base.sys.m.cell 0
  have HE := Lib.hid (err_dev hxa.base.dev (j := 0) (by omega))
  have hrow := hma.row
  rw [hmv] at hrow
  have HI := Lib.hid (index_any A l.length cc l (sp : Int) w.heap.size _ (Reads.of_own hrow) ((Blk.new w 3 #[.int .i64 (sp : Int)]).cell 0) (by simp) (by omega))
  have HBa := Lib.hid hba
  have HXa := Lib.hid hxa
  have HMa := Lib.hid hma
  have HRow := Lib.hid hrow
  have HNo : Hid (¬ ∀ m ∈ l, (m.id : Int) ≠ (sp : Int)) := Lib.hid (fun hn => by
    obtain ⟨m, hm, e⟩ := hsp
    exact hn m hm (by rw [e]))
  have hlg : g < w.heap.size := h.tx.lt
  have HSn : Hid (∀ k, w.heap.size ≤ k → ¬ S k) := fun k hk hs => by have := h.base.dev.lt _ hs; omega
  have HLt := Lib.hid h.lts
  have hlW : (w.alloc (.cells #[.int .i64 (sp : Int)] 3)).heap.size = w.heap.size + 1 := by simp
  have HLW := Lib.hid hlW
  clear h hmk hba hxa hma hrow hsp hlW
  go_enter Tryz.func16, Tryz.ntmps16
  go_wp2_with (first
    | (go_at_call 48; refine HE.out.mono ?_; rintro e w1 ⟨rfl, rfl⟩)
    | (go_at_call 55; refine stop ?_)
    | go_in)
  unfold Stop
  refine HI.out.mono ?_
  rintro e W ⟨⟨r, rfl, ⟨rfl, hno⟩ | ⟨k, rfl, hk, hid⟩⟩, hb⟩
  · exact absurd hno HNo.out
  have HX := Lib.hid (HXa.out.more_ hb)
  have HM := Lib.hid (HMa.out.more_ hb)
  have HRw := Lib.hid ((Chg.of_below (S := Fp.no) hb).own HRow.out (fun _ _ h => h))
  have HLe := Lib.hid hb.size
  have HZ0 : Hid (Chg (fun j => S j ∨ j = g) w W) := Lib.hid (Chg.of_below (HBa.out.trans (hb.mono HBa.out.size)))
  have HId := Lib.hid hid
  have d9 : W.cell? ⟨g, 9, none⟩ = some (.slice A l.length cc) := (HX.out.tx.cell 9).trans (by simp [txCells, hmv])
  have z9 : W.frozen? ⟨g, 9, none⟩ = false := HX.out.tx.frozen 9
  have hcap : l.length ≤ cc ∧ cc ≤ 9223372036854775807 := own_cap HRw.out
  obtain ⟨q1, q2⟩ := hcap
  have q3 : (k : Int) + 1 ≤ (cc : Int) := by omega
  have q4 : k + 1 ≤ cc := by omega
  have q5 : decide ((k : Int) < 0) = false := decide_eq_false (by omega)
  have HX1 := Lib.hid (HX.out.set 9 (.slice A (k + 1) cc) { t with marks := .slice A (k + 1) cc } rfl ⟨rfl, rfl, rfl, rfl, rfl, rfl⟩)
  have hZ1 : Chg (fun j => j = g) W (W.setCell ⟨g, 9, none⟩ (.slice A (k + 1) cc)) := (Chg.refl (fun j => j = g) W).setCell (p := ⟨g, 9, none⟩) (.inl rfl) _
  have HZ1 := Lib.hid (HZ0.out.setCell (p := ⟨g, 9, none⟩) (.inl (.inr rfl)) (.slice A (k + 1) cc))
  have HVB : Hid ((Value.slice A (k + 1) cc).ownBlock = t.marks.ownBlock) := Lib.hid (by rw [hmv]; cases A <;> rfl)
  have hmc := HM.out.chg hZ1 (fun j hj => .inr (.inr ⟨_, _, by decide, hj ▸ HX.out.tx⟩)) ⟨_, _, HX.out.maps.words⟩
  obtain ⟨hm1, hr2⟩ := hmc.cut hmv (k := k + 1) hk
  have HM1 := Lib.hid hm1
  have HR1 := Lib.hid hr2
  have hr1 := Reads.of_own hr2
  have HSt : Hid (St4 (W.setCell ⟨g, 9, none⟩ (.slice A (k + 1) cc)) (l[k]).k ((l[k]).k + 1) ((l[k]).k + 2) ((l[k]).k + 3) (l[k]).D (l[k]).n) := Lib.hid (hmc.st _ (List.getElem_mem hk))
  obtain ⟨hl2, b, off, rfl, hbl, f0, f1, f2, f3, f4, f5, f6⟩ := mk_facts hr1 (k := k) (by omega)
  rw [List.getElem_take] at f0 f1 f2 f3 f4 f5 f6
  have HIdm : Hid (∃ hk : k < l.length, ((l[k]).id : Int) = (sp : Int) ∧ l[k] = l[k]) := Lib.hid ⟨hk, HId.out, rfl⟩
  have HIdx : Hid (∃ m, ∃ hk : k < l.length, l[k] = m) := Lib.hid ⟨_, hk, rfl⟩
  generalize hmk : l[k] = mk at *
  have HMk : Hid (l[k] = mk) := Lib.hid hmk
  have k1 : (W.setCell ⟨g, 9, none⟩ (.slice (some ⟨b, off, none⟩) (k + 1) cc)).cell? ⟨g, 1, none⟩ = some (.map (some t.inner)) := HX1.out.tx.cell 1
  have k9 : (W.setCell ⟨g, 9, none⟩ (.slice (some ⟨b, off, none⟩) (k + 1) cc)).cell? ⟨g, 9, none⟩ = some (.slice (some ⟨b, off, none⟩) (k + 1) cc) := HX1.out.tx.cell 9
  have q6 : (k : Int) < (k : Int) + 1 := by omega
  have HCl := Lib.hid (stClone_any _ mk.k (mk.k + 1) (mk.k + 2) (mk.k + 3) mk.x mk.y mk.D mk.n HSt.out)
  clear hmk hr1 hr2 hm1 hmc hZ1 HIdx
  unfold stV at HCl
  go_wp2_with fail
  have hWs : (W.setCell ⟨g, 9, none⟩ (.slice (some ⟨b, off, none⟩) (k + 1) cc)).heap.size = W.heap.size := by simp
  generalize W.setCell ⟨g, 9, none⟩ (.slice (some ⟨b, off, none⟩) (k + 1) cc) = W1 at *
  generalize ht1 : ({ t with marks := .slice (some ⟨b, off, none⟩) (k + 1) cc } : TX) = t1 at *
  have HT1 := Lib.hid ht1
  have HW1 := Lib.hid hWs
  clear ht1 hWs f0 f1 f2 f3 f4 f5 f6 k1 k9 HX HM d9 z9 hbl
  refine HCl.out.mono ?_
  rintro e W2 ⟨kk, rfl, hst, hkk, hb2⟩
  have HX2 := Lib.hid (HX1.out.more_ hb2)
  have HM2 := Lib.hid (HM1.out.more_ hb2)
  have HSt2 := Lib.hid hst
  have HKk := Lib.hid hkk
  have HZ2 := Lib.hid (HZ1.out.below hb2)
  have HKw : Hid (w.heap.size ≤ kk) := Lib.hid (Nat.le_trans HZ1.out.size hkk)
  clear hst hkk hb2 HCl HSt HR1
  have z0 : W2.frozen? ⟨g, 0, none⟩ = false := HX2.out.tx.frozen 0
  have z1 : W2.frozen? ⟨g, 1, none⟩ = false := HX2.out.tx.frozen 1
  have z2 : W2.frozen? ⟨g, 2, none⟩ = false := HX2.out.tx.frozen 2
  have z3 : W2.frozen? ⟨g, 3, none⟩ = false := HX2.out.tx.frozen 3
  have z4 : W2.frozen? ⟨g, 4, none⟩ = false := HX2.out.tx.frozen 4
  have z5 : W2.frozen? ⟨g, 5, none⟩ = false := HX2.out.tx.frozen 5
  have y0 : W2.cell? ⟨g, 0, none⟩ = some (.map (some t1.words)) := HX2.out.tx.cell 0
  have y1 : W2.cell? ⟨g, 1, none⟩ = some (.map (some t1.inner)) := HX2.out.tx.cell 1
  have y2 : W2.cell? ⟨g, 2, none⟩ = some (.map (some t1.own)) := HX2.out.tx.cell 2
  have y3 : W2.cell? ⟨g, 3, none⟩ = some (.map (some t1.freed)) := HX2.out.tx.cell 3
  have y4 : W2.cell? ⟨g, 4, none⟩ = some (.bool t1.outside) := HX2.out.tx.cell 4
  have y5 : W2.cell? ⟨g, 5, none⟩ = some (.bool t1.surplus) := HX2.out.tx.cell 5
  have y7 : W2.cell? ⟨g, 7, none⟩ = some (.int .u8 1) := (HX2.out.tx.cell 7).trans (by rw [← HT1.out]; simp [txCells, hmode])
  unfold stV
  go_wp2_with fail
  have HN1 : Hid (∀ k, S k → k < W1.heap.size) := Lib.hid HX1.out.base.dev.lt
  have HX3 := Lib.hid (HX2.out.reset mk HSt2.out HKk.out HN1.out HX1.out.maps.held.lt HX1.out.maps.cover.lt HX1.out.base.below.size)
  have HM3 := Lib.hid (HM2.out.reset HX2.out.tx HX2.out.maps.words mk HKk.out (fun m hm => (HM1.out.st m hm).lt))
  have HZ3 := Lib.hid (HZ2.out.trans ((rbW_chg W2 g kk mk.x mk.y).mono (T := fun j => S j ∨ j = g) (fun _ h => .inr h)) (Grew.refl _ _))
  have HW3 : Hid (rbW W2 g kk mk.x mk.y = ((((((W2.setCell ⟨g, 0, none⟩ (.map (some kk))).setCell ⟨g, 1, none⟩ (.map (some (kk + 1)))).setCell ⟨g, 2, none⟩ (.map (some (kk + 2)))).setCell ⟨g, 3, none⟩ (.map (some (kk + 3)))).setCell ⟨g, 4, none⟩ (.bool mk.x)).setCell ⟨g, 5, none⟩ (.bool mk.y))) := Lib.hid rfl
  rw [← HW3.out]
  generalize rbW W2 g kk mk.x mk.y = W3 at *
  have HRl := Lib.hid (release_none W3 g _ _ HX3.out.tx rfl HX3.out.maps.held)
  clear z0 z1 z2 z3 z4 z5 y0 y1 y2 y3 y4 y5 y7 HX2 HM2 HSt2 HW3 HX1 HM1 HN1
  go_wp2_with fail
  refine HRl.out.mono ?_
  rintro e W7 ⟨rfl, hb7⟩
  have HX7 := Lib.hid (HX3.out.more_ hb7)
  have HZ7 := Lib.hid (HZ3.out.below hb7)
  have HM7 := Lib.hid (HM3.out.more_ hb7)
  have HE7 := Lib.hid (err_dev HX7.out.base.dev (j := 0) (by omega))
  have r6 : W7.cell? ⟨g, 6, none⟩ = some (.pointer (some ⟨c.x.m, 0, none⟩)) := HX7.out.tx.cell 6
  have r0 : W7.cell? ⟨c.x.m, 0, none⟩ = some (.pointer (some ⟨c.a.th 0, 0, none⟩)) := HX7.out.base.sys.m.cell 0
  clear hb7 HX3 HM3 HRl
  go_wp2_with fail
  refine HE7.out.mono ?_
  rintro e W8 ⟨rfl, rfl⟩
  go_wp2
  go_ret
  obtain ⟨hk', hid', _⟩ := HIdm.out
  have hmk := HMk.out
  have ht1 := HT1.out
  subst ht1
  subst hmk
  exact ⟨k, hk, kk, _, HId.out, rfl, HX7.out, HM7.out, HZ7.out, HVB.out, HKw.out⟩
set_option maxRecDepth 100000 in
set_option maxHeartbeats 2000000 in
theorem rollback_bad {c : CX} {g : Nat} {w : World} {S : Fp} {t : TX} {D : DataW Unit} {n : Nat} {cur : Nat → Nat} {T : Nat} {l : List Mk} (h : TxS c g w S t D n cur T) (hop : t.open_ = true) (hmk : Mks c w S t l) (hll : l.length ≤ 1000) (sp : Nat) (hsp : ∀ m ∈ l, m.id ≠ sp) :
    Calls Tryz.prog 16 #[.pointer (some ⟨g, 0, none⟩), .int .i64 (sp : Int)] w fun e w' => e = .returned (.int .i64 1) ∧ Below w.heap.size w w' := by
  obtain ⟨A, cc, hmv⟩ := own_slice hmk.row
  have hba : Below w.heap.size w (w.alloc (.cells #[.int .i64 (sp : Int)] 3)) := (Below.refl _ w).alloc (Nat.le_refl _) _
  have hxa := h.more_ hba
  have hma := hmk.more_ hba
  have c8 : (w.alloc (.cells #[.int .i64 (sp : Int)] 3)).cell? ⟨g, 8, none⟩ = some (.bool true) := (hxa.tx.cell 8).trans (by simp [txCells, hop])
  have c9 : (w.alloc (.cells #[.int .i64 (sp : Int)] 3)).cell? ⟨g, 9, none⟩ = some (.slice A l.length cc) := (hxa.tx.cell 9).trans (by simp [txCells, hmv])
  have c6 : (w.alloc (.cells #[.int .i64 (sp : Int)] 3)).cell? ⟨g, 6, none⟩ = some (.pointer (some ⟨c.x.m, 0, none⟩)) := hxa.tx.cell 6
  have m0 : (w.alloc (.cells #[.int .i64 (sp : Int)] 3)).cell? ⟨c.x.m, 0, none⟩ = some (.pointer (some ⟨c.a.th 0, 0, none⟩)) := hxa.base.sys.m.cell 0
  have HE := Lib.hid (err_dev hxa.base.dev (j := 0) (by omega))
  have hrow := hma.row
  rw [hmv] at hrow
  have HI := Lib.hid (index_any A l.length cc l (sp : Int) w.heap.size _ (Reads.of_own hrow) ((Blk.new w 3 #[.int .i64 (sp : Int)]).cell 0) (by simp) (by omega))
  have HXa := Lib.hid hxa
  have HMa := Lib.hid hma
  have HRow := Lib.hid hrow
  have HNo : Hid (∀ k (hk : k < l.length), (l[k].id : Int) ≠ (sp : Int)) := Lib.hid (fun k hk e => hsp _ (List.getElem_mem hk) (by omega))
  have HBa := Lib.hid hba
  have hlg : g < w.heap.size := h.tx.lt
  have HSn : Hid (∀ k, w.heap.size ≤ k → ¬ S k) := fun k hk hs => by have := h.base.dev.lt _ hs; omega
  have HLt := Lib.hid h.lts
  have hlW : (w.alloc (.cells #[.int .i64 (sp : Int)] 3)).heap.size = w.heap.size + 1 := by simp
  have HLW := Lib.hid hlW
  clear h hmk hba hxa hma hrow hsp hlW HSn HLt
  go_enter Tryz.func16, Tryz.ntmps16
  go_wp2_with (first
    | (go_at_call 48; refine HE.out.mono ?_; rintro e w1 ⟨rfl, rfl⟩)
    | (go_at_call 55; refine stop ?_)
    | go_in)
  unfold Stop
  refine HI.out.mono ?_
  rintro e W ⟨⟨r, rfl, ⟨rfl, _⟩ | ⟨k, rfl, hk, hid⟩⟩, hb⟩
  · have HB := Lib.hid (HBa.out.trans (hb.mono (by simp)))
    clear hb HI
    go_wp2
    go_ret
    exact ⟨rfl, HB.out⟩
  · exact absurd hid (HNo.out k hk)
end Go.Proofs.YtklpeghhgoeeiaaGreatDoor
/- tx: Load of a word that the transaction has not changed. -/
namespace Go.Proofs.YtklpeghhgoeeiaaGreatDoor
open Go.RowKit Go.Maps
set_option maxRecDepth 100000 in
set_option maxHeartbeats 1000000 in
theorem loadX_none {c : CX} {g : Nat} {w : World} {S : Fp} {t : TX} {D : DataW Unit} {n : Nat} {cur : Nat → Nat} {T : Nat} (h : TxS c g w S t D n cur T) (hop : t.open_ = true) (o : Nat) (h8 : o % 8 = 0) (hlt : o < 64 * 152) (hD : has D (kU o) = false) :
    Calls Tryz.prog 15 #[.pointer (some ⟨g, 0, none⟩), .int .u64 (o : Int)] w fun e w' => e = .returned (.int .u64 (cur (o / 8) : Int)) ∧ Below w.heap.size w w' := by
  have hov : o < 18446744073709551616 := by omega
  obtain ⟨v1, x1, p1, hlk, _⟩ := look_cell h.maps.words hov
  rw [hD] at hlk
  have c8 : w.cell? ⟨g, 8, none⟩ = some (.bool true) := (h.tx.cell 8).trans (by simp [txCells, hop])
  have c0 : w.cell? ⟨g, 0, none⟩ = some (.map (some t.words)) := h.tx.cell 0
  have hbw : Below w.heap.size w (w.alloc (.cells #[.int .u64 (v1 : Int), .int .u64 (x1 : Int), .bool p1] 107)) := (Below.refl _ w).alloc (Nat.le_refl _) _
  have hx := h.more_ hbw
  obtain ⟨v2, hl2⟩ := look_none (tm := 96) (te := 35) hx.maps.inner Tryz.underlying96 (z := .int .u64 0) (by kernel_rfl) hov
  have d1 : (w.alloc (.cells #[.int .u64 (v1 : Int), .int .u64 (x1 : Int), .bool p1] 107)).cell? ⟨g, 1, none⟩ = some (.map (some t.inner)) := hx.tx.cell 1
  have d6 : (w.alloc (.cells #[.int .u64 (v1 : Int), .int .u64 (x1 : Int), .bool p1] 107)).cell? ⟨g, 6, none⟩ = some (.pointer (some ⟨c.x.m, 0, none⟩)) := hx.tx.cell 6
  have m0 : (w.alloc (.cells #[.int .u64 (v1 : Int), .int .u64 (x1 : Int), .bool p1] 107)).cell? ⟨c.x.m, 0, none⟩ = some (.pointer (some ⟨c.a.th 0, 0, none⟩)) := hx.base.sys.m.cell 0
  have HL := Lib.hid (load_dev hx.base.dev (j := 0) (by omega) o h8 hlt)
  have HB := Lib.hid hbw
  have hlg : g < w.heap.size := h.tx.lt
  have hlm : c.x.m < w.heap.size := h.base.sys.m.lt
  clear h hop hD hx hbw h8 hlt
  generalize cur (o / 8) = vv at *
  unfold cellV at hlk
  go_enter Tryz.func15, Tryz.ntmps15
  go_wp2_with fail
  refine HL.out.mono ?_
  rintro e w1 ⟨rfl, rfl⟩
  go_wp2
  go_ret
  exact ⟨rfl, HB.out⟩
end Go.Proofs.YtklpeghhgoeeiaaGreatDoor
