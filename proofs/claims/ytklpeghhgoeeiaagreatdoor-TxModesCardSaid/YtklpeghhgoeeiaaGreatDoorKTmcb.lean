/- The walks and laws that the claim leans on, part 2: each part says ahead of its lines what it holds. -/
import Derived.Test.YtklpeghhgoeeiaaGreatDoorKTmca
/- tx, for TxModes: the machine in memory beside the law's own lists; what a trace is. -/
namespace Go.Proofs.YtklpeghhgoeeiaaGreatDoor
open Go.RowKit Go.Maps Go.Sort Go.Shelf
def nCells (l : List Nat) : List Value := l.map fun n : Nat => Value.int .i64 (n : Int)
noncomputable def TrM.step (x : TrM) (o : OpV) : TrM × Nat :=
  if o.op % 7 = 0 then x.begin_
  else if o.op % 7 = 1 ∨ o.op % 7 = 2 then (x.store_ (o.word % 32) o.v, 0)
  else if o.op % 7 = 3 then ({ x.saveM with sv := x.sv ++ [x.saveV] }, 0)
  else if o.op % 7 = 4 then (if x.sv.length = 0 then (x, 0) else x.rb (x.sv.getD (o.block % x.sv.length) 0))
  else if o.op % 7 = 5 then x.commit
  else x.abort
def TrM.seen (x : TrM) (j : Nat) : List Nat := (List.range j).map x.view
def TrM.outs (x : TrM) (e : Nat) : List Nat := [e, x.writes] ++ x.seen 32 ++ if x.isOpen then [] else [x.m 0, x.m 1]
noncomputable def trStep (p : TrM × List Nat) (o : OpV) : TrM × List Nat := ((p.1.step o).1, p.2 ++ (p.1.step o).1.outs (p.1.step o).2)
noncomputable def trRun (l : List OpV) : TrM × List Nat := l.foldl trStep (TrM.new, [])
theorem trRun_snoc (l : List OpV) (o : OpV) : trRun (l ++ [o]) = trStep (trRun l) o := by simp [trRun]
theorem store_sv (x : TrM) (i v : Nat) : (x.store_ i v).sv = x.sv := by
  unfold TrM.store_
  split <;> rfl
theorem save_sv (x : TrM) : x.saveM.sv = x.sv := by
  unfold TrM.saveM
  split <;> rfl
theorem rb_sv (x : TrM) (sp : Nat) : (x.rb sp).1.sv = x.sv := by
  unfold TrM.rb
  split <;> rfl
theorem commit_sv (x : TrM) : x.commit.1.sv = x.sv := by
  unfold TrM.commit
  split <;> rfl
theorem abort_sv (x : TrM) : x.abort.1.sv = x.sv := by
  unfold TrM.abort
  split <;> rfl
structure TrJ (c : CX) (mode : Nat) (x : TrM) (B : Nat) (xv sv : Value) (sl : List Nat) (ov : Value) (os : List Nat) (Z : Fp) (w : World) : Prop where
  ww : TrW c mode x B xv Z w
  ss : w.ownsRow c.w0.heap.size 3 1 sv sl.length (nCells sl)
  oo : w.ownsRow c.w0.heap.size 35 1 ov os.length (uCells os)
  ns : ∀ g, sv.ownBlock = some g → ¬ Z g
  no : ∀ g, ov.ownBlock = some g → ¬ Z g
def TrI (c : CX) (mode : Nat) (x : TrM) (B : Nat) (xv sv : Value) (sl : List Nat) (ov : Value) (os : List Nat) (w : World) : Prop := ∃ Z, TrJ c mode x B xv sv sl ov os Z w
section
variable {c : CX} {mode : Nat} {x x' : TrM} {B B' : Nat} {xv xv' sv ov : Value} {sl os : List Nat} {Z : Fp} {w w' : World}
theorem TrJ.to (h : TrJ c mode x B xv sv sl ov os Z w) (ht : TrTo c mode x' B' xv' Z w w') : TrI c mode x' B' xv' sv sl ov os w' := by
  obtain ⟨Z', hw, hc, hg⟩ := ht
  exact ⟨Z', hw, hc.own h.ss h.ns, hc.own h.oo h.no, fun g hg' hz => (hg g hz).elim (h.ns g hg') (fun e => by have := (h.ss.lt g hg').2; omega), fun g hg' hz => (hg g hz).elim (h.no g hg') (fun e => by have := (h.oo.lt g hg').2; omega)⟩
theorem TrI.below (h : TrI c mode x B xv sv sl ov os w) (hb : Below w.heap.size w w') : TrI c mode x B xv sv sl ov os w' := by
  obtain ⟨Z, h⟩ := h
  exact h.to (h.ww.to_below (Nat.le_refl _) hb)
theorem TrI.more (h : TrI c mode x B xv sv sl ov os w) (hB : B ≤ B') : TrI c mode x B' xv sv sl ov os w := by
  obtain ⟨Z, h⟩ := h
  exact ⟨Z, { h with ww := h.ww.more hB }⟩
theorem TrI.out (h : TrI c mode x B xv sv sl ov os w) : Below c.w0.heap.size c.w0 w ∧ LawS c w := by
  obtain ⟨Z, h⟩ := h
  exact h.ww.out
/-- The list of results grew. -/
theorem TrI.appO (h : TrI c mode x B xv sv sl ov os w) {v' : Value} {os' : List Nat} (hg : w.grownBy w' ov.ownBlock) (hn : v'.ownBlock = ov.ownBlock ∨ v'.ownBlock = some w.heap.size) (ho : w'.ownsRow c.w0.heap.size 35 1 v' os'.length (uCells os')) : TrI c mode x B xv sv sl v' os' w' := by
  obtain ⟨Z, h⟩ := h
  have hc : Chg (fun j => ov.ownBlock = some j) w w' := (Chg.refl _ w).grown hg (fun j e => .inl e)
  refine ⟨Z, h.ww.chg hc (fun j hj => ⟨h.no j hj, (h.oo.lt j hj).1⟩), h.ss.kept hg (own_own_ne h.ss h.oo (by decide)), ho, h.ns, fun g hg' hz => ?_⟩
  rcases hn with e | e
  · exact h.no g (e ▸ hg') hz
  · rw [e] at hg'
    injection hg' with hg'
    have := h.ww.lt g hz
    omega
/-- The list of savepoints grew. -/
theorem TrI.appS (h : TrI c mode x B xv sv sl ov os w) {v' : Value} {sl' : List Nat} (hg : w.grownBy w' sv.ownBlock) (hn : v'.ownBlock = sv.ownBlock ∨ v'.ownBlock = some w.heap.size) (ho : w'.ownsRow c.w0.heap.size 3 1 v' sl'.length (nCells sl')) : TrI c mode x B xv v' sl' ov os w' := by
  obtain ⟨Z, h⟩ := h
  have hc : Chg (fun j => sv.ownBlock = some j) w w' := (Chg.refl _ w).grown hg (fun j e => .inl e)
  refine ⟨Z, h.ww.chg hc (fun j hj => ⟨h.ns j hj, (h.ss.lt j hj).1⟩), ho, h.oo.kept hg (own_own_ne h.oo h.ss (by decide)), fun g hg' hz => ?_, h.no⟩
  rcases hn with e | e
  · exact h.ns g (e ▸ hg') hz
  · rw [e] at hg'
    injection hg' with hg'
    have := h.ww.lt g hz
    omega
theorem TrI.noS (h : TrI c mode x B xv sv sl ov os w) : TrI c mode x B xv (.slice none 0 0) [] ov os w := by
  obtain ⟨Z, h⟩ := h
  exact ⟨Z, h.ww, World.ownsRow_nil _ _ _ _, h.oo, fun g hg => by simp [Value.ownBlock] at hg, h.no⟩
theorem TrI.setV (h : TrI c mode x B xv sv sl ov os w) (l : List Nat) : TrI c mode { x with sv := l } B xv sv sl ov os w := by
  obtain ⟨Z, h⟩ := h
  exact ⟨Z, { h with ww := h.ww.sv l }⟩
theorem TrI.slices (h : TrI c mode x B xv sv sl ov os w) : (∃ A k, sv = .slice A sl.length k) ∧ ∃ A k, ov = .slice A os.length k := by
  obtain ⟨Z, h⟩ := h
  exact ⟨own_slice h.ss, own_slice h.oo⟩
end
section
variable {c : CX} {mode : Nat} {x : TrM} {B : Nat} {xv sv ov : Value} {sl os : List Nat} {w w' : World}
theorem ti_begin (h : TrI c mode x B xv sv sl ov os w) (hmo : mode = 1 ∨ mode = 2) :
    Calls Tryz.prog 12 #[.pointer (some ⟨c.x.m, 0, none⟩), .int .u8 (mode : Int)] w fun e w' => ∃ yv, e = .returned (.tuple #[yv, .int .i64 (x.begin_.2 : Int)]) ∧ ((x.begin_.2 = 0 ∧ TrI c mode x.begin_.1 (B + 1) yv sv sl ov os w') ∨ (x.begin_.2 = 7 ∧ x.begin_.1 = x ∧ w = w')) := by
  obtain ⟨Z, h⟩ := h
  refine (tr_begin h.ww hmo).mono ?_
  rintro e w' ⟨yv, rfl, ⟨e0, ht⟩ | h7⟩
  · exact ⟨yv, rfl, .inl ⟨e0, h.to ht⟩⟩
  · exact ⟨yv, rfl, .inr h7⟩
theorem ti_store (h : TrI c mode x B xv sv sl ov os w) (hmo : mode = 1 ∨ mode = 2) {i v : Nat} (hi : i < 32) (hv : v < 18446744073709551616) (hB : B ≤ 800) :
    Calls Tryz.prog 13 #[xv, .int .u64 ((8 * i : Nat) : Int), .int .u64 (v : Int)] w fun e w' => e = .returned (.tuple #[]) ∧ TrI c mode (x.store_ i v) (B + 1) xv sv sl ov os w' := by
  obtain ⟨Z, h⟩ := h
  exact (tr_store h.ww hmo hi hv hB).mono (fun _ _ ⟨h1, h2⟩ => ⟨h1, h.to h2⟩)
theorem ti_save (h : TrI c mode x B xv sv sl ov os w) (hB : B ≤ 800) :
    Calls Tryz.prog 14 #[xv] w fun e w' => e = .returned (.int .i64 (x.saveV : Int)) ∧ TrI c mode x.saveM (B + 1) xv sv sl ov os w' := by
  obtain ⟨Z, h⟩ := h
  exact (tr_save h.ww hB).mono (fun _ _ ⟨h1, h2⟩ => ⟨h1, h.to h2⟩)
theorem ti_rollback (h : TrI c mode x B xv sv sl ov os w) (hmo : mode = 1 ∨ mode = 2) (hB : B ≤ 800) (sp : Nat) :
    Calls Tryz.prog 16 #[xv, .int .i64 (sp : Int)] w fun e w' => e = .returned (.int .i64 ((x.rb sp).2 : Int)) ∧ TrI c mode (x.rb sp).1 (B + 1) xv sv sl ov os w' := by
  obtain ⟨Z, h⟩ := h
  exact (tr_rollback h.ww hmo hB sp).mono (fun _ _ ⟨h1, h2⟩ => ⟨h1, h.to h2⟩)
theorem ti_commit (h : TrI c mode x B xv sv sl ov os w) (hmo : mode = 1 ∨ mode = 2) (hB : B ≤ 800) (ht : Tab c.w0) :
    Calls Tryz.prog 17 #[xv] w fun e w' => e = .returned (.int .i64 (x.commit.2 : Int)) ∧ TrI c mode x.commit.1 (B + 1) xv sv sl ov os w' := by
  obtain ⟨Z, h⟩ := h
  exact (tr_commit h.ww hmo hB ht).mono (fun _ _ ⟨h1, h2⟩ => ⟨h1, h.to h2⟩)
theorem ti_abort (h : TrI c mode x B xv sv sl ov os w) (hmo : mode = 1 ∨ mode = 2) (hB : B ≤ 800) :
    Calls Tryz.prog 31 #[xv] w fun e w' => e = .returned (.int .i64 (x.abort.2 : Int)) ∧ TrI c mode x.abort.1 (B + 1) xv sv sl ov os w' := by
  obtain ⟨Z, h⟩ := h
  exact (tr_abort h.ww hmo hB).mono (fun _ _ ⟨h1, h2⟩ => ⟨h1, h.to h2⟩)
theorem ti_writes (h : TrI c mode x B xv sv sl ov os w) : x.writes ≤ 32 ∧ Calls Tryz.prog 23 #[xv] w fun e w' => e = .returned (.int .i64 (x.writes : Int)) ∧ w = w' := by
  obtain ⟨Z, h⟩ := h
  exact ⟨tr_writes_le h.ww, tr_writes h.ww⟩
theorem ti_load (h : TrI c mode x B xv sv sl ov os w) (hmo : mode = 1 ∨ mode = 2) {i : Nat} (hi : i < 32) : Calls Tryz.prog 15 #[xv, .int .u64 ((8 * i : Nat) : Int)] w fun e w' => e = .returned (.int .u64 (x.view i : Int)) ∧ TrI c mode x B xv sv sl ov os w' := by
  obtain ⟨Z, h⟩ := h
  exact (tr_load h.ww hmo hi).mono (fun _ _ ⟨h1, h2⟩ => ⟨h1, TrI.below ⟨Z, h⟩ h2⟩)
theorem ti_open (h : TrI c mode x B xv sv sl ov os w) : Calls Tryz.prog 26 #[xv] w fun e w' => e = .returned (.bool x.isOpen) ∧ w = w' := by
  obtain ⟨Z, h⟩ := h
  exact tr_open h.ww
theorem ti_thread (h : TrI c mode x B xv sv sl ov os w) (ho : x.isOpen = false) :
    Calls Tryz.prog 18 #[.pointer (some ⟨c.a.d, 0, none⟩), .int .i64 2] w fun e w' => e = .returned (.pointer (some ⟨c.a.th 2, 0, none⟩)) ∧ w = w' := by
  obtain ⟨Z, h⟩ := h
  exact idle_thread2 (h.ww.idle ho)
theorem ti_read (h : TrI c mode x B xv sv sl ov os w) (ho : x.isOpen = false) {i : Nat} (hi : i < 32) :
    Calls Tryz.prog 19 #[.pointer (some ⟨c.a.th 2, 0, none⟩), .int .u64 ((8 * i : Nat) : Int)] w fun e w' => e = .returned (.int .u64 (x.m i : Int)) ∧ w = w' := by
  obtain ⟨Z, h⟩ := h
  have := idle_load (h.ww.idle ho) (j := 2) (by omega) (8 * i) (good8 hi)
  rw [show 8 * i / 8 = i by omega] at this
  exact this
end
end Go.Proofs.YtklpeghhgoeeiaaGreatDoor
/- bedrocklaw24: trace. -/
namespace Go.Proofs.YtklpeghhgoeeiaaGreatDoor
open Go.RowKit Go.Maps Go.Sort Go.Shelf
theorem opCells_len (l : List OpV) : (opCells l).length = l.length * 4 := by
  induction l with
  | nil => rfl
  | cons o l ih => simp only [opCells, List.flatMap_cons, List.length_append, List.length_cons] at *; rw [ih]; simp [OpV.cells]; omega
theorem opCells_at : ∀ (l : List OpV) (k j : Nat) (hk : k < l.length), j < 4 → (opCells l)[k * 4 + j]? = (l[k]).cells[j]?
  | o :: l, 0, j, _, hj => by
    simp only [opCells, List.flatMap_cons]
    rw [List.getElem?_append_left (by simp [OpV.cells]; omega)]
    simp
  | o :: l, k + 1, j, h, hj => by
    have ih := opCells_at l k j (by simpa using h) hj
    simp only [opCells, List.flatMap_cons] at *
    rw [List.getElem?_append_right (by simp [OpV.cells]; omega), show (k + 1) * 4 + j - (o.cells).length = k * 4 + j by simp [OpV.cells]; omega, ih]
    simp
theorem op_facts {w : World} {B n : Nat} {A : Option Addr} {l : List OpV} (h : Reads w B 4 A n (opCells l)) {k : Nat} (hk : k < n) :
    ∃ (hl : k < l.length) (b off : Nat), A = some ⟨b, off, none⟩ ∧ b < B ∧ w.cell? ⟨b, off + k * 4, none⟩ = some (.int .u8 ((l[k]).op : Int)) ∧ w.cell? ⟨b, off + k * 4 + 1, none⟩ = some (.int .u8 ((l[k]).word : Int)) ∧ w.cell? ⟨b, off + k * 4 + 2, none⟩ = some (.int .u8 ((l[k]).block : Int)) ∧ w.cell? ⟨b, off + k * 4 + 3, none⟩ = some (.int .u64 ((l[k]).v : Int)) := by
  have hl : k < l.length := by have := h.1; rw [opCells_len] at this; omega
  obtain ⟨b, off, hA, hb, hc⟩ := h.plain (by omega) (by omega)
  exact ⟨hl, b, off, hA, hb, hc (k * 4) _ (opCells_at l k 0 hl (by omega)), hc (k * 4 + 1) _ (opCells_at l k 1 hl (by omega)), hc (k * 4 + 2) _ (opCells_at l k 2 hl (by omega)), hc (k * 4 + 3) _ (opCells_at l k 3 hl (by omega))⟩
/-- Behind a call: the machine's step. -/
def TrP (c : CX) (mode : Nat) (x : TrM) (o : OpV) (B : Nat) (xv sv ev ov : Value) (os : List Nat) (w : World) : Prop := ev = .int .i64 ((x.step o).2 : Int) ∧ TrI c mode (x.step o).1 B xv sv (x.step o).1.sv ov os w
theorem begin_sv {x : TrM} (h : x.begin_.2 = 0) : x.begin_.1.sv = [] := by
  unfold TrM.begin_ at h ⊢
  split at h
  · simp at h
  · rfl
theorem step_le (x : TrM) (o : OpV) : (x.step o).2 ≤ 8 := by
  have hb : x.begin_.2 ≤ 8 := by unfold TrM.begin_; split <;> simp
  have hr : ∀ sp, (x.rb sp).2 ≤ 8 := fun sp => by
    unfold TrM.rb
    split
    · rename_i s _
      show (s.rb sp).2 ≤ 8
      unfold AT.rb
      split <;> simp
    · simp
  have hc : x.commit.2 ≤ 8 := by unfold TrM.commit; split <;> simp
  have ha : x.abort.2 ≤ 8 := by unfold TrM.abort; split <;> simp
  unfold TrM.step
  repeat' split
  all_goals first | exact hb | exact hc | exact ha | exact hr _ | simp
theorem outs_len (x : TrM) (e : Nat) : (x.outs e).length ≤ 36 := by
  unfold TrM.outs TrM.seen
  split <;> simp
theorem begin_len (x : TrM) : x.begin_.1.sv.length ≤ x.sv.length := by
  unfold TrM.begin_
  split <;> simp
theorem step_len (x : TrM) (o : OpV) : (x.step o).1.sv.length ≤ x.sv.length + 1 := by
  have hb := begin_len x
  unfold TrM.step
  repeat' split
  · omega
  · show (x.store_ _ _).sv.length ≤ _; rw [store_sv]; omega
  · show (x.sv ++ [x.saveV]).length ≤ _; simp
  · show x.sv.length ≤ _; omega
  · rw [rb_sv]; omega
  · rw [commit_sv]; omega
  · rw [abort_sv]; omega
theorem trRun_len (l : List OpV) : ∀ k, k ≤ l.length → (trRun (l.take k)).1.sv.length ≤ k ∧ (trRun (l.take k)).2.length ≤ 36 * k
  | 0, _ => ⟨Nat.le_refl _, Nat.le_refl _⟩
  | k + 1, h => by
    have ih := trRun_len l k (by omega)
    rw [takeS l k (by omega), trRun_snoc]
    have h1 := step_len (trRun (l.take k)).1 l[k]
    have h2 := outs_len ((trRun (l.take k)).1.step l[k]).1 ((trRun (l.take k)).1.step l[k]).2
    refine ⟨by show ((trRun (l.take k)).1.step l[k]).1.sv.length ≤ _; omega, ?_⟩
    show ((trRun (l.take k)).2 ++ _).length ≤ _
    rw [List.length_append]
    omega
set_option maxRecDepth 100000 in
set_option maxHeartbeats 4000000 in
theorem trace_any (w : World) (ht : Tab w) (mode : Nat) (hmo : mode = 1 ∨ mode = 2) (A : Option Addr) (n ca : Nat) (l : List OpV) (hr : Reads w w.heap.size 4 A n (opCells l)) (hn : n ≤ maxLen) (hok : ∀ o ∈ l, o.Ok) :
    Calls Tryz.prog 20 #[.slice A n ca, .int .u8 (mode : Int)] w (RetU w (fun ys => ys = (trRun (l.take 40)).2)) := by
  obtain ⟨i0, hi0, hz0, hz1, hz2⟩ := info_parts infoU64
  obtain ⟨j0, hj0, hy0, hy1, hy2⟩ := info_parts infoInt
  unfold maxLen at hn
  have HR := Lib.hid hr
  have HOk := Lib.hid hok
  have HLn := Lib.hid (show l.length = n by have := hr.1; rw [opCells_len] at this; omega)
  have HMa := Lib.hid (made_any w ht)
  have HTb := Lib.hid ht
  have HMo := Lib.hid hmo
  clear hr hok ht hmo
  go_enter Tryz.func20, Tryz.ntmps20
  go_wp2_with fail
  refine HMa.out.mono ?_
  rintro e w2 ⟨a, S, T, cur, gw, x, cs, rfl, hM⟩
  obtain ⟨Z, hI0, hZ0⟩ := idle_made hM
  obtain ⟨c, hw0, hgw, hI⟩ : ∃ c : CX, c.w0 = w ∧ c.gw = gw ∧ Idle c (curM 32) 0 Z w2 := ⟨_, rfl, rfl, hI0⟩
  clear hI0 hM
  subst hgw
  have HW0 := Lib.hid hw0
  have HTc : Hid (Tab c.w0) := Lib.hid (by rw [hw0]; exact HTb.out)
  have HT0 : Hid (TrI c mode (trRun (l.take 0)).1 0 (.pointer none) (.slice none 0 0) (trRun (l.take 0)).1.sv (.slice none 0 0) (trRun (l.take 0)).2 w2) := Lib.hid ⟨Z, ⟨rfl, hI⟩, World.ownsRow_nil _ _ _ _, World.ownsRow_nil _ _ _ _, fun g hg => by simp [Value.ownBlock] at hg, fun g hg => by simp [Value.ownBlock] at hg⟩
  have HArg : Hid (∀ W, Below c.w0.heap.size c.w0 W → Below w.heap.size w W) := Lib.hid (fun W hW => by rw [hw0] at hW; exact hW)
  clear hI HMa hw0 HTb hZ0
  go_wp2
  go_loopw [6, 7, 8, 17] (fun ov xv sv i wr => ∃ k : Nat, k ≤ n ∧ k ≤ 40 ∧ i = .int .i64 (k : Int) ∧ Hid (TrI c mode (trRun (l.take k)).1 k xv sv (trRun (l.take k)).1.sv ov (trRun (l.take k)).2 wr)) (fun _ _ _ i _ => n - (Go.RowKit.intOf i).toNat)
  case atStart => exact ⟨0, Nat.zero_le _, by omega, rfl, HT0⟩
  case round =>
    clear HT0
    obtain ⟨k, hk, hk40, rfl, HT⟩ := hrel
    by_cases hlt : k < n
    case neg =>
      have hkn : k = n := by omega
      subst hkn
      obtain ⟨⟨As, cs', rfl⟩, ⟨Ao, co, rfl⟩⟩ := HT.out.slices
      obtain ⟨ZZ, hj⟩ := HT.out
      have HO := Lib.hid hj.oo
      have HBw := Lib.hid (HArg.out wr HT.out.out.1)
      clear hj HT
      go_wp2
      go_ret
      have ho := HO.out
      rw [HW0.out] at ho
      have e1 : l.take k = l := List.take_of_length_le (by rw [HLn.out]; exact Nat.le_refl _)
      have e2 : l.take 40 = l := List.take_of_length_le (by rw [HLn.out]; exact hk40)
      exact ⟨Ao, _, co, (trRun (l.take k)).2, rfl, by rw [e1, e2], rfl, ho, HBw.out⟩
    by_cases h40 : k = 40
    case pos =>
      subst h40
      obtain ⟨⟨As, cs', rfl⟩, ⟨Ao, co, rfl⟩⟩ := HT.out.slices
      obtain ⟨hl, b, off, hA, hbB, f0, f1, f2, f3⟩ := op_facts (HR.out.below (HArg.out wr HT.out.out.1)) hlt
      subst hA
      have hz6 : (40 : Int) < (n : Int) := by omega
      have hba : Below wr.heap.size wr (wr.alloc (.cells l[40].cells.toArray 77)) := (Below.refl _ wr).alloc (Nat.le_refl _) _
      have HTa := Lib.hid (HT.out.below hba)
      obtain ⟨ZZ, hj⟩ := HTa.out
      have HO := Lib.hid hj.oo
      have HBw := Lib.hid (HArg.out _ HTa.out.out.1)
      clear hj HT HTa hba
      generalize l[40] = o at *
      go_wp2
      go_ret
      have ho := HO.out
      rw [HW0.out] at ho
      exact ⟨_, _, _, _, rfl, rfl, rfl, ho, HBw.out⟩
    have HLen := Lib.hid (trRun_len l k (by have := HLn.out; omega))
    obtain ⟨hl, b, off, hA, hbB, f0, f1, f2, f3⟩ := op_facts (HR.out.below (HArg.out wr HT.out.out.1)) hlt
    subst hA
    have hz5 : (0 : Int) ≤ (k : Int) := by omega
    have hz6 : (k : Int) < (n : Int) := by omega
    have h41 : ((k : Int) == 40) = false := by rw [beq_eq_false_iff_ne]; omega
    have HTS := Lib.hid (takeS l k hl)
    have HOo := Lib.hid (HOk.out _ (List.getElem_mem hl))
    have HSn := Lib.hid (trRun_snoc (l.take k) (l[k]))
    rw [← HTS.out] at HSn
    generalize l[k] = o at *
    generalize hrk : trRun (l.take k) = p at *
    obtain ⟨x, os⟩ := p
    dsimp only at HT HLen
    have hl1 : x.sv.length ≤ 40 := by have := HLen.out.1; omega
    have hl2 : os.length ≤ 1440 := by have := HLen.out.2; omega
    have HLen2 := Lib.hid hl2
    clear HLen
    obtain ⟨⟨As, cs', rfl⟩, ⟨Ao, co, rfl⟩⟩ := HT.out.slices
    have HTa : Hid (TrI c mode x k u7 (.slice As x.sv.length cs') x.sv (.slice Ao os.length co) os (wr.alloc (.cells #[.int .u8 (o.op : Int), .int .u8 (o.word : Int), .int .u8 (o.block : Int), .int .u64 (o.v : Int)] 77))) := Lib.hid (HT.out.below ((Below.refl _ wr).alloc (Nat.le_refl _) _))
    have k2 : (wr.alloc (.cells #[.int .u8 (o.op : Int), .int .u8 (o.word : Int), .int .u8 (o.block : Int), .int .u64 (o.v : Int)] 77)).cell? ⟨c.gw, 2, none⟩ = some (.pointer (some ⟨c.x.m, 0, none⟩)) := HTa.out.out.2.2.2
    obtain ⟨q, hq⟩ : ∃ q : Nat, o.op % 7 = q := ⟨_, rfl⟩
    have hq7 : q < 7 := by omega
    have hm1 : (o.op : Int) % 7 = (q : Int) := by omega
    have hm2 : (o.op : Int).tmod 7 = (q : Int) := by rw [Int.tmod_eq_emod_of_nonneg (by omega)]; exact hm1
    have HQ := Lib.hid hq
    clear HT hrk hq
    go_upto_block 2 with fail
    go_cut [7, 8, 11] from 18 to 119 (fun xv' sv' ev wx => Hid (TrP c mode x o (k + 1) xv' sv' ev (.slice Ao os.length co) os wx))
    case first =>
      clear hm1 hm2
      have hqs : q = 0 ∨ (q = 1 ∨ q = 2) ∨ q = 3 ∨ q = 4 ∨ q = 5 ∨ q = 6 := by omega
      rcases hqs with rfl | hq12 | rfl | rfl | rfl | rfl
      · have HSt : Hid (x.step o = x.begin_) := Lib.hid (by unfold TrM.step; rw [if_pos HQ.out])
        have HBg := Lib.hid (ti_begin HTa.out HMo.out)
        go_wp2_with fail
        refine HBg.out.mono ?_
        rintro e w5 ⟨yv, rfl, ⟨e0, ht⟩ | ⟨e7, ex, rfl⟩⟩
        · have HT5 := Lib.hid ht
          have HE := Lib.hid e0
          rw [show (x.begin_.2 : Int) = 0 by omega]
          clear ht e0 HBg HTa
          go_wp2_with fail
          go_meet
          refine Lib.hid ⟨by rw [HSt.out, HE.out]; rfl, ?_⟩
          rw [HSt.out, begin_sv HE.out]
          exact HT5.out.noS
        · have HE := Lib.hid e7
          have HX := Lib.hid ex
          rw [show (x.begin_.2 : Int) = 7 by omega]
          clear e7 ex HBg
          go_wp2_with fail
          go_meet
          refine Lib.hid ⟨by rw [HSt.out, HE.out]; rfl, ?_⟩
          rw [HSt.out, HX.out]
          exact HTa.out.more (by omega)
      · have HSt : Hid (x.step o = (x.store_ (o.word % 32) o.v, 0)) := Lib.hid (by unfold TrM.step; rw [if_neg (by have := HQ.out; omega), if_pos (by have := HQ.out; omega)])
        obtain ⟨i, hi⟩ : ∃ i : Nat, o.word % 32 = i := ⟨_, rfl⟩
        have hi32 : i < 32 := by omega
        have hm1 : (o.word : Int) % 32 = (i : Int) := by omega
        have hm2 : (o.word : Int).tmod 32 = (i : Int) := by rw [Int.tmod_eq_emod_of_nonneg (by omega)]; exact hm1
        have u1 : IntKind.u64.wrap (i : Int) = (i : Int) := by rw [IntKind.wrap_u64]; omega
        have hst := ti_store HTa.out HMo.out hi32 HOo.out.2.2.2 (by omega)
        rw [show ((8 * i : Nat) : Int) = 8 * (i : Int) by omega] at hst
        rw [hi] at HSt
        have HS5 := Lib.hid hst
        clear hst hi HTa
        rcases hq12 with rfl | rfl
        · go_wp2_with fail
          refine HS5.out.mono ?_
          rintro e w5 ⟨rfl, ht⟩
          have HT5 := Lib.hid ht
          clear ht HS5
          go_wp2_with fail
          go_meet
          refine Lib.hid ⟨by rw [HSt.out]; rfl, ?_⟩
          rw [HSt.out]
          dsimp only
          rw [store_sv]
          exact HT5.out
        · go_wp2_with fail
          refine HS5.out.mono ?_
          rintro e w5 ⟨rfl, ht⟩
          have HT5 := Lib.hid ht
          clear ht HS5
          go_wp2_with fail
          go_meet
          refine Lib.hid ⟨by rw [HSt.out]; rfl, ?_⟩
          rw [HSt.out]
          dsimp only
          rw [store_sv]
          exact HT5.out
      · have HSt : Hid (x.step o = ({ x.saveM with sv := x.sv ++ [x.saveV] }, 0)) := Lib.hid (by unfold TrM.step; rw [if_neg (by have := HQ.out; omega), if_neg (by have := HQ.out; omega), if_pos HQ.out])
        have HS5 := Lib.hid (ti_save HTa.out (by omega))
        generalize x.saveV = vv at *
        clear HTa
        go_wp2_with fail
        refine HS5.out.mono ?_
        rintro e w5 ⟨rfl, ht⟩
        have HT5 := Lib.hid (ht.below ((Below.refl _ w5).alloc (Nat.le_refl _) (.cells #[.int .i64 (vv : Int)] 3)))
        clear ht HS5
        go_wp2_with (at_builtin; refine stop ?_)
        unfold Stop
        obtain ⟨Z5, h5⟩ := HT5.out
        have hss := h5.ss
        have hlw := HT5.out.out.1.size
        refine wpList_app2 _ (.tmp 57) (.tmp 60) 37 rfl rfl c.w0.heap.size 3 j0 _ 1 8 Tryz.underlying37 hj0 hy0 hy1 hy2 rfl (by omega) (.slice As x.sv.length cs') x.sv.length (nCells x.sv) rfl hss (w5.heap.size + 1) (some ⟨w5.heap.size, 0, none⟩) 1 1 [.int .i64 (vv : Int)] rfl (row_reads_at _ _ rfl _ 1 1 3 _ rfl rfl) (by intro u hu; simp at hu; subst hu; rfl) (by unfold maxLen; omega) (by omega) hlw ?_
        intro A6 n6 c6 w6 hn6 ho6 hg6 hp6
        subst hn6
        have HT6 : Hid (TrI c mode x.saveM (k + 1) u7 (.slice A6 (x.sv.length + 1) c6) (x.sv ++ [vv]) (.slice Ao os.length co) os w6) := Lib.hid (HT5.out.appS hg6 hp6 (by
          rw [List.length_append]
          show w6.ownsRow _ _ _ _ (x.sv.length + 1) (nCells (x.sv ++ [vv]))
          unfold nCells at ho6 ⊢
          rw [List.map_append]
          exact ho6))
        clear ho6 hg6 hp6 hss h5 HT5 hlw
        go_wp2_with fail
        go_meet
        refine Lib.hid ⟨by rw [HSt.out]; rfl, ?_⟩
        rw [HSt.out]
        exact HT6.out.setV _
      · by_cases hs0 : x.sv.length = 0
        · have HSt : Hid (x.step o = (x, 0)) := Lib.hid (by unfold TrM.step; rw [if_neg (by have := HQ.out; omega), if_neg (by have := HQ.out; omega), if_neg (by have := HQ.out; omega), if_pos HQ.out, if_pos hs0])
          have HE0 := Lib.hid hs0
          rw [hs0]
          clear hs0
          go_wp2_with fail
          go_meet
          refine Lib.hid ⟨by rw [HSt.out]; rfl, ?_⟩
          rw [HSt.out]
          have h := HTa.out.more (B' := k + 1) (by omega)
          rw [HE0.out] at h
          exact h
        · obtain ⟨j, hj⟩ : ∃ j : Nat, o.block % x.sv.length = j := ⟨_, rfl⟩
          have hjl : j < x.sv.length := by rw [← hj]; exact Nat.mod_lt _ (by omega)
          have HSt : Hid (x.step o = x.rb x.sv[j]) := Lib.hid (by
            unfold TrM.step
            rw [if_neg (by have := HQ.out; omega), if_neg (by have := HQ.out; omega), if_neg (by have := HQ.out; omega), if_pos HQ.out, if_neg hs0, hj]
            congr 1
            simp [List.getD, List.getElem?_eq_getElem hjl])
          have HS5 := Lib.hid (ti_rollback HTa.out HMo.out (by omega) x.sv[j])
          have hm3 : (o.block : Int) % (x.sv.length : Int) = (j : Int) := by rw [← hj]; omega
          have hm4 : (o.block : Int).tmod (x.sv.length : Int) = (j : Int) := by rw [Int.tmod_eq_emod_of_nonneg (by omega)]; exact hm3
          obtain ⟨Zs, hs⟩ := HTa.out
          have hrs := Reads.of_own hs.ss
          obtain ⟨bs, offs, hAs, hbs, hcs⟩ := hrs.plain (by omega) (by omega)
          subst hAs
          have fs := hcs j (.int .i64 (x.sv[j] : Int)) (by simp [nCells, hjl])
          have hz7 : (0 : Int) ≤ (j : Int) := by omega
          have hz8 : (j : Int) < (x.sv.length : Int) := by omega
          have hz9 : ¬ ((x.sv.length : Int) = 0) := by omega
          have uo : IntKind.i64.wrap (o.block : Int) = (o.block : Int) := IntWalk.i64_in _ (by have := HOo.out.2.2.1; omega)
          have hsp : 0 < x.sv.length := by omega
          clear hs hrs hcs hs0 HTa hj
          generalize x.sv[j] = sp at *
          generalize x.sv.length = sn at *
          have g1 : decide ((0 : Int) < (sn : Int)) = true := decide_eq_true (by omega)
          go_wp2_with fail
          refine HS5.out.mono ?_
          rintro e w5 ⟨rfl, ht⟩
          have HT5 := Lib.hid ht
          clear ht HS5
          go_wp2_with fail
          go_meet
          refine Lib.hid ⟨by rw [HSt.out], ?_⟩
          rw [HSt.out, rb_sv]
          exact HT5.out
      · have HSt : Hid (x.step o = x.commit) := Lib.hid (by unfold TrM.step; rw [if_neg (by have := HQ.out; omega), if_neg (by have := HQ.out; omega), if_neg (by have := HQ.out; omega), if_neg (by have := HQ.out; omega), if_pos HQ.out])
        have HS5 := Lib.hid (ti_commit HTa.out HMo.out (by omega) HTc.out)
        clear HTa
        go_wp2_with fail
        refine HS5.out.mono ?_
        rintro e w5 ⟨rfl, ht⟩
        have HT5 := Lib.hid ht
        clear ht HS5
        go_wp2_with fail
        go_meet
        refine Lib.hid ⟨by rw [HSt.out], ?_⟩
        rw [HSt.out, commit_sv]
        exact HT5.out
      · have HSt : Hid (x.step o = x.abort) := Lib.hid (by unfold TrM.step; rw [if_neg (by have := HQ.out; omega), if_neg (by have := HQ.out; omega), if_neg (by have := HQ.out; omega), if_neg (by have := HQ.out; omega), if_neg (by have := HQ.out; omega)])
        have HS5 := Lib.hid (ti_abort HTa.out HMo.out (by omega))
        clear HTa
        go_wp2_with fail
        refine HS5.out.mono ?_
        rintro e w5 ⟨rfl, ht⟩
        have HT5 := Lib.hid ht
        clear ht HS5
        go_wp2_with fail
        go_meet
        refine Lib.hid ⟨by rw [HSt.out], ?_⟩
        rw [HSt.out, abort_sv]
        exact HT5.out
    case rest =>
      rename World => wx
      obtain ⟨hev, hT⟩ := hcut.out
      subst hev
      have hT' := Lib.hid hT
      have hle := step_le x o
      have hol := HLen2.out
      have HSo : Hid (trRun (l.take (k + 1)) = ((x.step o).1, os ++ (x.step o).1.outs (x.step o).2)) := Lib.hid (by rw [HSn.out]; rfl)
      clear hT hcut hm1 hm2 HQ HTa HOo HTS HSn
      generalize x.step o = ye at *
      obtain ⟨y, e'⟩ := ye
      dsimp only at hT' hle HSo
      obtain ⟨hwl, hwr⟩ := ti_writes hT'.out
      have HWr := Lib.hid hwr
      have u1 : IntKind.u64.wrap (e' : Int) = (e' : Int) := by rw [IntKind.wrap_u64]; omega
      have u2 : IntKind.u64.wrap (y.writes : Int) = (y.writes : Int) := by rw [IntKind.wrap_u64]; omega
      have HT0 := Lib.hid (hT'.out.below ((Below.refl _ wx).alloc (Nat.le_refl _) (.cells #[.int .u64 (e' : Int), .int .u64 (y.writes : Int)] 35)))
      have HVw : Hid (∀ j, y.seen (j + 1) = y.seen j ++ [y.view j]) := Lib.hid (fun j => by unfold TrM.seen; rw [List.range_succ, List.map_append]; rfl)
      have HOu : Hid (y.outs e' = [e', y.writes] ++ y.seen 32 ++ if y.isOpen then [] else [y.m 0, y.m 1]) := Lib.hid rfl
      have HSl : Hid (∀ j, (y.seen j).length = j) := Lib.hid (fun j => by simp [TrM.seen])
      clear hwr hT'
      generalize y.writes = wn at *
      go_wp2_with (first
        | (go_at_call 23; refine HWr.out.mono ?_; rintro e w1' ⟨rfl, rfl⟩)
        | (at_builtin; refine stop ?_))
      unfold Stop
      obtain ⟨Z5, h5⟩ := HT0.out
      have hss := h5.oo
      have hlw := HT0.out.out.1.size
      refine wpList_app2 _ (.tmp 82) (.tmp 88) 57 rfl rfl c.w0.heap.size 35 i0 _ 1 8 Tryz.underlying57 hi0 hz0 hz1 hz2 rfl (by omega) (.slice Ao os.length co) os.length (uCells os) rfl hss (wx.heap.size + 1) (some ⟨wx.heap.size, 0, none⟩) 2 2 [.int .u64 (e' : Int), .int .u64 (wn : Int)] rfl (row_reads_at _ _ rfl _ 2 1 35 _ rfl rfl) (u64s_one _ _) (by unfold maxLen; omega) (by omega) hlw ?_
      intro A6 n6 c6 w6 hn6 ho6 hg6 hp6
      subst hn6
      have HT6 : Hid (TrI c mode y (k + 1) u7 u8 y.sv (.slice A6 (os.length + 2) c6) (os ++ [e', wn] ++ y.seen 0) w6) := Lib.hid (by
        have e0 : os ++ [e', wn] ++ y.seen 0 = os ++ [e', wn] := by simp [TrM.seen]
        rw [e0]
        refine HT0.out.appO hg6 hp6 ?_
        rw [List.length_append]
        show w6.ownsRow _ _ _ _ (os.length + 2) (uCells (os ++ [e', wn]))
        unfold uCells at ho6 ⊢
        rw [List.map_append]
        exact ho6)
      clear ho6 hg6 hp6 hss h5 HT0 hlw HWr
      go_wp2
      go_loopw [6, 90] (fun ov i wr => ∃ j : Nat, j ≤ 32 ∧ i = .int .u64 (j : Int) ∧ Hid (TrI c mode y (k + 1) u7 u8 y.sv ov (os ++ [e', wn] ++ y.seen j) wr)) (fun _ i _ => 32 - (Go.RowKit.intOf i).toNat)
      case atStart => exact ⟨0, by omega, by go_num, HT6⟩
      case round =>
        clear HT6
        obtain ⟨j, hj, rfl, HT⟩ := hrel
        obtain ⟨_, ⟨Ao2, co2, rfl⟩⟩ := HT.out.slices
        have HLj : Hid ((os ++ [e', wn] ++ y.seen j).length = os.length + 2 + j) := Lib.hid (by rw [List.length_append, List.length_append, HSl.out]; rfl)
        by_cases hlt2 : j < 32
        · have hld := ti_load HT.out HMo.out hlt2
          rw [show ((8 * j : Nat) : Int) = 8 * (j : Int) by omega] at hld
          have HLd := Lib.hid hld
          have HVj := Lib.hid (HVw.out j)
          have u3 : IntKind.u64.wrap (8 * (j : Int)) = 8 * (j : Int) := by rw [IntKind.wrap_u64]; omega
          generalize y.view j = vv at *
          generalize hol' : os ++ [e', wn] ++ y.seen j = os2 at *
          have HO2 := Lib.hid hol'
          clear hld HT hol'
          have hl3 : os2.length ≤ 1480 := by have := HLj.out; omega
          clear HLj
          go_wp2_with fail
          refine HLd.out.mono ?_
          rintro e w7 ⟨rfl, ht⟩
          have HT7 := Lib.hid (ht.below ((Below.refl _ w7).alloc (Nat.le_refl _) (.cells #[.int .u64 (vv : Int)] 35)))
          clear ht HLd
          go_wp2_with (at_builtin; refine stop ?_)
          unfold Stop
          obtain ⟨Z7, h7⟩ := HT7.out
          have hss := h7.oo
          have hlw := HT7.out.out.1.size
          refine wpList_app2 _ (.tmp 93) (.tmp 98) 57 rfl rfl c.w0.heap.size 35 i0 _ 1 8 Tryz.underlying57 hi0 hz0 hz1 hz2 rfl (by omega) (.slice Ao2 os2.length co2) os2.length (uCells os2) rfl hss (w7.heap.size + 1) (some ⟨w7.heap.size, 0, none⟩) 1 1 [.int .u64 (vv : Int)] rfl (row_reads_at _ _ rfl _ 1 1 35 _ rfl rfl) (by intro u hu; simp at hu; subst hu; rfl) (by unfold maxLen; omega) (by omega) hlw ?_
          intro A8 n8 c8 w8 hn8 ho8 hg8 hp8
          subst hn8
          have HT8 : Hid (TrI c mode y (k + 1) u7 u8 y.sv (.slice A8 (os2.length + 1) c8) (os ++ [e', wn] ++ y.seen (j + 1)) w8) := Lib.hid (by
            rw [HVj.out, ← List.append_assoc, HO2.out]
            refine HT7.out.appO hg8 hp8 ?_
            rw [List.length_append]
            show w8.ownsRow _ _ _ _ (os2.length + 1) (uCells (os2 ++ [vv]))
            unfold uCells at ho8 ⊢
            rw [List.map_append]
            exact ho8)
          clear ho8 hg8 hp8 hss h7 HT7 hlw hl3 HO2 HVj
          go_wp2
          go_roundw
          case rel =>
            first
              | exact ⟨j + 1, by omega, by go_num, HT8⟩
              | (repeat apply Exists.intro
                 refine ⟨?_, rfl⟩
                 exact ⟨j + 1, by omega, by go_num, HT8⟩)
          case measure => simp [Go.RowKit.intOf]; omega
        · have hj32 : j = 32 := by omega
          subst hj32
          have HOp := Lib.hid (ti_open HT.out)
          by_cases hio : y.isOpen = true
          · have HF : Hid (TrI c mode (trRun (l.take (k + 1))).1 (k + 1) u7 u8 (trRun (l.take (k + 1))).1.sv (.slice Ao2 (os ++ [e', wn] ++ y.seen 32).length co2) (trRun (l.take (k + 1))).2 wr) := Lib.hid (by
              rw [HSo.out]
              dsimp only
              rw [HOu.out, if_pos hio, List.append_nil, ← List.append_assoc]
              exact HT.out)
            rw [hio] at HOp
            generalize (os ++ [e', wn] ++ y.seen 32).length = n32 at *
            clear HT hio
            go_wp2_with fail
            refine HOp.out.mono ?_
            rintro e w9 ⟨rfl, rfl⟩
            clear HOp
            go_wp2
            go_roundw
            case rel =>
              first
                | exact ⟨k + 1, by omega, by omega, by go_num, HF⟩
                | (repeat apply Exists.intro
                   refine ⟨?_, rfl⟩
                   exact ⟨k + 1, by omega, by omega, by go_num, HF⟩)
            case measure => simp [Go.RowKit.intOf]; omega
          · have hio' : y.isOpen = false := by simpa using hio
            rw [hio'] at HOp
            have hT2 := HT.out.below (Below.refl _ wr).drew
            have HTh := Lib.hid (ti_thread hT2 hio')
            have hr0 := ti_read hT2 hio' (i := 0) (by omega)
            have hr1 := ti_read hT2 hio' (i := 1) (by omega)
            rw [show ((8 * 0 : Nat) : Int) = 0 from rfl] at hr0
            rw [show ((8 * 1 : Nat) : Int) = 8 from rfl] at hr1
            have HR0 := Lib.hid hr0
            have HR1 := Lib.hid hr1
            have HO3 : Hid (y.outs e' = [e', wn] ++ y.seen 32 ++ [y.m 0, y.m 1]) := Lib.hid (by rw [HOu.out, hio']; rfl)
            have HS0 : Hid (wr.drew.cell? ⟨c.gw, 0, none⟩ = some (.pointer (some ⟨c.a.d, 0, none⟩))) := Lib.hid hT2.out.2.1
            have HTd := Lib.hid hT2
            have HL3 := Lib.hid (show (os ++ [e', wn] ++ y.seen 32).length ≤ 1480 by have := HLj.out; omega)
            generalize y.m 0 = m0 at *
            generalize y.m 1 = m1 at *
            generalize hol' : os ++ [e', wn] ++ y.seen 32 = os2 at *
            have HO2 := Lib.hid hol'
            clear HT hio hio' hT2 hr0 hr1 hol' HVw
            go_wp2_with fail
            refine HOp.out.mono ?_
            rintro e w9 ⟨rfl, rfl⟩
            clear HOp
            go_wp2_with fail
            refine wp_region_script (fun w' => w'.cell? ⟨c.gw, 0, none⟩ = some (.pointer (some ⟨c.a.d, 0, none⟩))) 15 [(true, 0), (true, 1), (true, 2), (true, 3), (true, 4), (true, 7), (true, 8), (true, 9), (true, 10), (false, 5), (false, 6), (false, 11), (false, 12), (false, 13), (false, 14)] (by kernel_rfl) (by kernel_rfl) HS0.out ?_
            refine wpScript_take (.slice Ao2 os2.length co2) (by rfl) (by rfl) (fun w' hS => ?_) ?_
            · go_simp
            simp only [List.getElem_toArray, List.getElem_cons_zero, Act.put, List.setIfInBounds_toArray, List.set_cons_zero, List.set_cons_succ]
            refine wpScript_take (.pointer (some ⟨c.gw, 0, none⟩)) (by rfl) (by rfl) (fun w' hS => ?_) ?_
            · go_simp
            simp only [List.getElem_toArray, List.getElem_cons_zero, List.getElem_cons_succ, Act.put, List.setIfInBounds_toArray, List.set_cons_zero, List.set_cons_succ]
            refine wpScript_take (.pointer (some ⟨c.gw, 0, none⟩)) (by rfl) (by rfl) (fun w' hS => ?_) ?_
            · go_simp
            simp only [List.getElem_toArray, List.getElem_cons_zero, List.getElem_cons_succ, Act.put, List.setIfInBounds_toArray, List.set_cons_zero, List.set_cons_succ]
            refine wpScript_take (.pointer (some ⟨c.gw, 0, none⟩)) (by rfl) (by rfl) (fun w' hS => ?_) ?_
            · go_simp
            simp only [List.getElem_toArray, List.getElem_cons_zero, List.getElem_cons_succ, Act.put, List.setIfInBounds_toArray, List.set_cons_zero, List.set_cons_succ]
            refine wpScript_take (.pointer (some ⟨c.a.d, 0, none⟩)) (by rfl) (by rfl) (fun w' hS => ?_) ?_
            · have f1 := hS
              go_simp
            simp only [List.getElem_toArray, List.getElem_cons_zero, List.getElem_cons_succ, Act.put, List.setIfInBounds_toArray, List.set_cons_zero, List.set_cons_succ]
            refine wpScript_take (.pointer (some ⟨c.gw, 0, none⟩)) (by rfl) (by rfl) (fun w' hS => ?_) ?_
            · go_simp
            simp only [List.getElem_toArray, List.getElem_cons_zero, List.getElem_cons_succ, Act.put, List.setIfInBounds_toArray, List.set_cons_zero, List.set_cons_succ]
            refine wpScript_take (.pointer (some ⟨c.gw, 0, none⟩)) (by rfl) (by rfl) (fun w' hS => ?_) ?_
            · go_simp
            simp only [List.getElem_toArray, List.getElem_cons_zero, List.getElem_cons_succ, Act.put, List.setIfInBounds_toArray, List.set_cons_zero, List.set_cons_succ]
            refine wpScript_take (.pointer (some ⟨c.gw, 0, none⟩)) (by rfl) (by rfl) (fun w' hS => ?_) ?_
            · go_simp
            simp only [List.getElem_toArray, List.getElem_cons_zero, List.getElem_cons_succ, Act.put, List.setIfInBounds_toArray, List.set_cons_zero, List.set_cons_succ]
            refine wpScript_take (.pointer (some ⟨c.a.d, 0, none⟩)) (by rfl) (by rfl) (fun w' hS => ?_) ?_
            · have f1 := hS
              go_simp
            simp only [List.getElem_toArray, List.getElem_cons_zero, List.getElem_cons_succ, Act.put, List.setIfInBounds_toArray, List.set_cons_zero, List.set_cons_succ]
            refine wpScript_do (by rfl) ?_
            go_wp2_with fail
            refine HTh.out.mono ?_
            rintro e w10 ⟨rfl, rfl⟩
            go_wp2_with fail
            refine ⟨HS0.out, ?_⟩
            refine wpScript_do (by rfl) ?_
            go_wp2_with fail
            refine HR0.out.mono ?_
            rintro e w11 ⟨rfl, rfl⟩
            go_wp2_with fail
            refine ⟨HS0.out, ?_⟩
            refine wpScript_do (by rfl) ?_
            go_wp2_with fail
            refine HTh.out.mono ?_
            rintro e w10 ⟨rfl, rfl⟩
            go_wp2_with fail
            refine ⟨HS0.out, ?_⟩
            refine wpScript_do (by rfl) ?_
            go_wp2_with fail
            refine HR1.out.mono ?_
            rintro e w11 ⟨rfl, rfl⟩
            go_wp2_with fail
            refine ⟨HS0.out, ?_⟩
            refine wpScript_do (by rfl) ?_
            go_wp2_with fail
            have HTe := Lib.hid (HTd.out.below ((Below.refl _ wr.drew).alloc (Nat.le_refl _) (.cells #[.int .u64 (m0 : Int), .int .u64 (m1 : Int)] 35)))
            refine ⟨HTe.out.out.2.1, ?_⟩
            obtain ⟨Z9, h9⟩ := HTe.out
            have hss := h9.oo
            have hlw := HTe.out.out.1.size
            have hl3 := HL3.out
            refine wpScript_do (by rfl) ?_
            refine wpList_app2 _ (.tmp 104) (.tmp 117) 57 rfl rfl c.w0.heap.size 35 i0 _ 1 8 Tryz.underlying57 hi0 hz0 hz1 hz2 rfl (by omega) (.slice Ao2 os2.length co2) os2.length (uCells os2) rfl hss (wr.heap.size + 1) (some ⟨wr.heap.size, 0, none⟩) 2 2 [.int .u64 (m0 : Int), .int .u64 (m1 : Int)] rfl (row_reads_at wr.drew _ rfl _ 2 1 35 _ rfl rfl) (u64s_one _ _) (by unfold maxLen; omega) (by omega) hlw ?_
            intro A9 n9 c9 w9 hn9 ho9 hg9 hp9
            subst hn9
            have HF : Hid (TrI c mode (trRun (l.take (k + 1))).1 (k + 1) u7 u8 (trRun (l.take (k + 1))).1.sv (.slice A9 (os2.length + 2) c9) (trRun (l.take (k + 1))).2 w9) := Lib.hid (by
              rw [HSo.out]
              dsimp only
              rw [HO3.out, ← List.append_assoc, ← List.append_assoc, HO2.out]
              refine HTe.out.appO hg9 hp9 ?_
              rw [List.length_append]
              show w9.ownsRow _ _ _ _ (os2.length + 2) (uCells (os2 ++ [m0, m1]))
              unfold uCells at ho9 ⊢
              rw [List.map_append]
              exact ho9)
            clear ho9 hg9 hp9 hss h9 hlw hl3 HTe HTd HTh HR0 HR1
            refine ⟨HF.out.out.2.1, ?_⟩
            show wpList _ _ _ _ _ _
            simp only [List.drop_succ_cons, List.drop_zero]
            go_wp2
            refine NoPanic.normal ?_
            go_wp2
            go_roundw
            case rel =>
              first
                | exact ⟨k + 1, by omega, by omega, by go_num, HF⟩
                | (repeat apply Exists.intro
                   refine ⟨?_, rfl⟩
                   exact ⟨k + 1, by omega, by omega, by go_num, HF⟩)
            case measure => simp [Go.RowKit.intOf]; omega
end Go.Proofs.YtklpeghhgoeeiaaGreatDoor
/- bedrocklaw24: TxModes. -/
namespace Go.Proofs.YtklpeghhgoeeiaaGreatDoor
open Go.RowKit Go.Maps Go.Sort Go.Shelf
set_option maxRecDepth 100000 in
set_option maxHeartbeats 2000000 in
theorem txModes_law (w : World) (ht : Tab w) {v0 : Value} (l : List OpV) (h0 : OpsIs w v0 l) :
    Calls Tryz.prog 4 #[v0] w fun e w' => e = .returned (.bool true) ∧ Below w.heap.size w w' := by
  obtain ⟨A, n, ca, rfl, hr, hn, hm, hok⟩ := h0
  have HAw := Lib.hid (awake_any _ ht)
  have HTr : Hid (∀ (W : World) (mo : Nat), Below w.heap.size w W → mo = 1 ∨ mo = 2 → Calls Tryz.prog 20 #[.slice A n ca, .int .u8 (mo : Int)] W (RetU W (fun ys => ys = (trRun (l.take 40)).2))) := Lib.hid (fun W mo hW hmo =>
    trace_any W (ht.below hW) mo hmo A n ca l ((hr.below hW).more hW.size) (by omega) hok)
  have HLen := Lib.hid (trRun_len (l.take 40) (l.take 40).length (Nat.le_refl _))
  clear ht hr hn hm hok
  go_enter Tryz.func4, Tryz.ntmps4
  go_wp2_with fail
  refine HAw.out.mono ?_
  rintro e w1 ⟨rfl, hb1⟩
  have HB1 := Lib.hid hb1
  have HT1 := Lib.hid (HTr.out w1 1 hb1 (.inl rfl))
  clear hb1 HAw
  go_wp2_with fail
  refine HT1.out.mono ?_
  rintro e w2 ⟨A2, m2, c2, ys, rfl, hy, hm2, ho2, hb2⟩
  have HB2 := Lib.hid (HB1.out.trans (hb2.mono HB1.out.size))
  have HR2 := Lib.hid (Reads.of_own ho2)
  have HY := Lib.hid hy
  have HT2 := Lib.hid (HTr.out w2 2 HB2.out (.inr rfl))
  have HM2 := Lib.hid hm2
  clear hy hm2 ho2 hb2 HT1 HTr
  go_wp2_with fail
  refine HT2.out.mono ?_
  rintro e w3 ⟨A3, m3, c3, zs, rfl, hz, hm3, ho3, hb3⟩
  have HB3 := Lib.hid (HB2.out.trans (hb3.mono HB2.out.size))
  have HRa := Lib.hid ((HR2.out.below hb3).more hb3.size)
  have hzy : zs = ys := hz.trans HY.out.symm
  subst hzy
  have hmm : m3 = m2 := by have := HM2.out; omega
  subst hmm
  have HRb := Lib.hid (Reads.of_own ho3)
  have hle : m3 ≤ 1440 := by
    have h1 := HLen.out.2
    have h2 : (l.take 40).length ≤ 40 := by simp; omega
    rw [List.take_of_length_le (l := l.take 40) (Nat.le_refl _)] at h1
    have h3 := HY.out
    rw [hm3, h3]
    omega
  have HM3 := Lib.hid hm3
  have HB0 : Hid (Below w3.heap.size w3 w3) := Below.refl _ _
  clear hz hm3 ho3 hb3 HT2 HR2 HY HLen HM2
  go_wp2
  go_loopw [19] (fun i wr => ∃ k : Nat, k ≤ m3 ∧ i = .int .i64 (k : Int) ∧ Hid (Below w3.heap.size w3 wr)) (fun i _ => m3 - (Go.RowKit.intOf i).toNat)
  case atStart => exact ⟨0, Nat.zero_le _, rfl, HB0⟩
  case round =>
    clear HB0
    obtain ⟨k, hk, rfl, HB⟩ := hrel
    by_cases hlt : k < m3
    · have hza := HRa.out.below HB.out
      have hzb := HRb.out.below HB.out
      obtain ⟨hl, ba, oa, hAa, hba, fa⟩ := u_facts hza hlt
      obtain ⟨_, bb, ob, hAb, hbb, fb⟩ := u_facts hzb hlt
      subst hAa
      subst hAb
      have hz5 : (0 : Int) ≤ (k : Int) := by omega
      have hz6 : (k : Int) < (m3 : Int) := by omega
      have HBd := Lib.hid (HB.out.trans ((Below.refl _ wr).drew.mono HB.out.size))
      generalize zs[k] = z at *
      clear hza hzb HB
      go_wp2
      go_region
      go_wp2
      go_roundw
      case rel =>
        first
          | exact ⟨k + 1, by omega, by go_num, HBd⟩
          | (repeat apply Exists.intro
             refine ⟨?_, rfl⟩
             exact ⟨k + 1, by omega, by go_num, HBd⟩)
      case measure => simp [Go.RowKit.intOf]; omega
    · have hkn : k = m3 := by omega
      subst hkn
      have HF := Lib.hid (HB3.out.trans (HB.out.mono HB3.out.size))
      clear HB
      go_wp2
      go_ret
      exact ⟨rfl, HF.out⟩
end Go.Proofs.YtklpeghhgoeeiaaGreatDoor
