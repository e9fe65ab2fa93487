/- The walks and laws that the claim leans on, part 2: each part says ahead of its lines what it holds. -/
import Derived.Test.YtklpeghhgoeeiaaGreatDoorKaa
import Derived.Deep.RegionHeld3
/- The device in memory. -/
namespace Go.Proofs.YtklpeghhgoeeiaaGreatDoor
open Go.RowKit
/-- Where the parts of a device lie. -/
structure DA where
  d : Nat
  pb : Nat
  cb : Nat
  lb : Nat
  nt : Nat → Nat
  th : Nat → Nat
  cc : Nat
/-- The lines: how many stores were persisted, the stores after these. -/
structure LS where
  dn : Nat → Nat
  m : Nat → Nat
  h : Nat → Value
  xs : Nat → List Value
/-- The entries of a history are stores to words. -/
def HistOk (L m : Nat) (xs : List Value) : Prop := ∀ k, k < m → ∃ o v : Nat, xs[k * 2]? = some (.int .u64 (o : Int)) ∧ xs[k * 2 + 1]? = some (.int .u64 (v : Int)) ∧ o < 64 * L
def devCells (a : DA) (L : Nat) (exe : Int) : Array Value :=
  #[.slice (some ⟨a.pb, 0, none⟩) (8 * L) (8 * L), .slice (some ⟨a.cb, 0, none⟩) (8 * L) a.cc, .slice (some ⟨a.lb, 0, none⟩) L L,
    .pointer (some ⟨a.th 0, 0, none⟩), .pointer (some ⟨a.th 1, 0, none⟩), .pointer (some ⟨a.th 2, 0, none⟩), .pointer (some ⟨a.th 3, 0, none⟩), .pointer (some ⟨a.th 4, 0, none⟩), .pointer (some ⟨a.th 5, 0, none⟩), .pointer (some ⟨a.th 6, 0, none⟩), .pointer (some ⟨a.th 7, 0, none⟩),
    .bool false, .bool false, .int .i64 0, .int .u64 exe]
/-- A device that is on and not armed. -/
structure DevC (a : DA) (L T : Nat) (w : World) (S : Fp) (cur : Nat → Nat) (s : LS) (exe : Int) (per cs ls : Array Value) : Prop where
  dev : Blk w a.d 138 (devCells a L exe)
  perB : Blk w a.pb 35 per
  perS : per.size = 8 * L
  perI : ∀ i, i < 8 * L → ∃ v : Int, per[i]? = some (.int .u64 v)
  curB : Blk w a.cb 35 cs
  curS : cs.size = a.cc
  curL : 8 * L ≤ a.cc
  curM : a.cc ≤ 9223372036854775807
  curI : ∀ i, i < 8 * L → cs[i]? = some (.int .u64 (cur i : Int))
  linB : Blk w a.lb 239 ls
  linS : ls.size = 2 * L
  linD : ∀ i, i < L → ls[i * 2]? = some (.int .u64 (s.dn i : Int))
  linH : ∀ i, i < L → ls[i * 2 + 1]? = some (s.h i)
  own : ∀ i, i < L → w.ownsRow 0 130 2 (s.h i) (s.m i) (s.xs i)
  ok : ∀ i, i < L → HistOk L (s.m i) (s.xs i)
  few : ∀ i, i < L → s.dn i + s.m i ≤ T
  apart : ∀ i j g, i < L → j < L → (s.h i).ownBlock = some g → (s.h j).ownBlock = some g → i = j
  thr : ∀ j, j < 8 → Blk w (a.th j) 141 #[.pointer (some ⟨a.d, 0, none⟩), .int .i64 (j : Int), .int .i64 0, .map (some (a.nt j))]
  sd : S a.d
  sp : S a.pb
  sc : S a.cb
  sl : S a.lb
  sn : S (a.nt 0)
  st : ∀ j, j < 8 → S (a.th j)
  sh : ∀ i g, i < L → (s.h i).ownBlock = some g → S g
  lt : ∀ k, S k → k < w.heap.size
  ne : a.pb ≠ a.cb
  hL : L ≤ 4096
  hT : T ≤ 1000000000
section
variable {a : DA} {L T : Nat} {w w' : World} {S Z : Fp} {cur : Nat → Nat} {s : LS} {exe : Int} {per cs ls : Array Value}
theorem DevC.chg (h : DevC a L T w S cur s exe per cs ls) (hc : Chg Z w w') (hd : ∀ k, S k → ¬ Z k) : DevC a L T w' S cur s exe per cs ls :=
  { h with
    dev := hc.blk h.dev (hd _ h.sd)
    perB := hc.blk h.perB (hd _ h.sp)
    curB := hc.blk h.curB (hd _ h.sc)
    linB := hc.blk h.linB (hd _ h.sl)
    own := fun i hi => hc.own (h.own i hi) (fun g hg => hd _ (h.sh i g hi hg))
    thr := fun j hj => hc.blk (h.thr j hj) (hd _ (h.st j hj))
    lt := fun k hk => Nat.lt_of_lt_of_le (h.lt k hk) hc.size }
/-- What a load looks at. -/
theorem DevC.facts (h : DevC a L T w S cur s exe per cs ls) {j : Nat} (hj : j < 8) :
    w.cell? ⟨a.th j, 0, none⟩ = some (.pointer (some ⟨a.d, 0, none⟩)) ∧ w.cell? ⟨a.d, 2, none⟩ = some (.slice (some ⟨a.lb, 0, none⟩) L L) ∧ w.cell? ⟨a.d, 11, none⟩ = some (.bool false) ∧ w.cell? ⟨a.d, 1, none⟩ = some (.slice (some ⟨a.cb, 0, none⟩) (8 * L) a.cc) ∧ w.cell? ⟨a.th j, 2, none⟩ = some (.int .i64 0) :=
  ⟨(h.thr j hj).cell 0, h.dev.cell 2, h.dev.cell 11, h.dev.cell 1, (h.thr j hj).cell 2⟩
end
set_option maxRecDepth 100000 in
set_option maxHeartbeats 4000000 in
theorem load_core (L c d th lb cb : Nat) (v : Int) (off : Nat) (w : World) (h8 : ((off : Int) % 8 == 0) = true) (hlt : off < 64 * L) (hL : L ≤ 4096)
    (f0 : w.cell? ⟨th, 0, none⟩ = some (.pointer (some ⟨d, 0, none⟩))) (f2 : w.cell? ⟨d, 2, none⟩ = some (.slice (some ⟨lb, 0, none⟩) L L)) (f11 : w.cell? ⟨d, 11, none⟩ = some (.bool false)) (f1 : w.cell? ⟨d, 1, none⟩ = some (.slice (some ⟨cb, 0, none⟩) (8 * L) c))
    (fc : w.cell? ⟨cb, off / 8, none⟩ = some (.int .u64 v)) :
    Calls Tryz.prog 19 #[.pointer (some ⟨th, 0, none⟩), .int .u64 (off : Int)] w fun e w' => e = .returned (.int .u64 v) ∧ w = w' := by
  have e1 : decide ((off : Int) < (L : Int) * 64) = true := decide_eq_true (by omega)
  have e5 : decide (off < L * 64) = true := decide_eq_true (by omega)
  have e2 : (off : Int) / 8 < 8 * (L : Int) := by omega
  have e3 : (0 : Int) ≤ (off : Int) / 8 := by omega
  have e4 : ((off : Int) / 8).toNat = off / 8 := by omega
  go_enter Tryz.func19, Tryz.ntmps19
  go_wp2
  go_ret
  exact ⟨rfl, rfl⟩
theorem load_any {a : DA} {L T : Nat} {w : World} {S : Fp} {cur : Nat → Nat} {s : LS} {exe : Int} {per cs ls : Array Value} (h : DevC a L T w S cur s exe per cs ls) {j : Nat} (hj : j < 8) (off : Nat) (h8 : off % 8 = 0) (hlt : off < 64 * L) :
    Calls Tryz.prog 19 #[.pointer (some ⟨a.th j, 0, none⟩), .int .u64 (off : Int)] w fun e w' => e = .returned (.int .u64 (cur (off / 8) : Int)) ∧ w = w' := by
  obtain ⟨f0, f2, f11, f1, _⟩ := h.facts hj
  refine load_core L a.cc a.d (a.th j) a.lb a.cb _ off w (by rw [beq_iff_eq]; omega) hlt h.hL f0 f2 f11 f1 ?_
  rw [h.curB.cell]
  exact h.curI _ (by omega)
/-- The notes of thread 0: the lines that were flushed, each with the number of its stores. -/
def NoteC (a : DA) (L : Nat) (w : World) (s : LS) (F : Nat) : Prop :=
  ∃ l : List (Lit × DataW Unit), w.ownsMap Tryz.prog 3 (plainElem Tryz.prog 35) (a.nt 0) F (.map l) ∧ ∀ p ∈ l, ∃ i : Nat, i < L ∧ p = (.int .i64 (i : Int), .lit (.int .u64 ((s.dn i + s.m i : Nat) : Int)))
/-- A device that is on, whose words are cur; at most T stores so far, F notes. -/
def Dev (a : DA) (L T : Nat) (w : World) (S : Fp) (cur : Nat → Nat) (F : Nat) : Prop := ∃ s exe per cs ls, DevC a L T w S cur s exe per cs ls ∧ NoteC a L w s F
def upd (cur : Nat → Nat) (i v : Nat) : Nat → Nat := fun k => if k = i then v else cur k
/-- What an instruction leaves. -/
def RetDev (a : DA) (L T : Nat) (w : World) (S : Fp) (cur : Nat → Nat) (F : Nat) (v : Value) (e : Ending) (w' : World) : Prop :=
  e = .returned v ∧ ∃ S', Dev a L T w' S' cur F ∧ Chg S w w' ∧ Grew S S' w
end Go.Proofs.YtklpeghhgoeeiaaGreatDoor
/- The device's Store. -/
namespace Go.Proofs.YtklpeghhgoeeiaaGreatDoor
open Go.RowKit
theorem infoWrite : (Tryz.prog.info? 130).map (fun i => (i.zero, i.size, i.bytes)) = some (some (.agg #[.int .u64 0, .int .u64 0]), 2, 16) := by kernel_rfl
section
variable {P : Program} (w : World)
/-- An append in a plain region, with the place of the new slice. -/
theorem wpList_appL {ops : Array Oper} {rest : List Oper} {o : Oper} {a : Act} {Q : Exit → Act → World → Prop} (s x : Operand) (t : TypeId)
    (hw : Region.wanted o (yielded ops a.tmps) = true)
    (ho : o.op = .call { callee := .builtin .append, args := #[s, x], argTypes := #[t, t] })
    (base : Nat) (e : TypeId) (i : TypeInfo) (z : Value) (size bytes : Nat) (ht : P.underlying t = some (.slice e)) (hi : P.info? e = some i) (hz : i.zero = some z)
    (hsize : i.size = size) (hby : i.bytes = bytes) (hzs : z.cells.size = size) (hsz : 0 < size)
    (v : Value) (n : Nat) (xs : List Value) (hs : a.eval s = v) (hown : w.ownsRow base e size v n xs)
    (B : Nat) (A : Option Addr) (m c : Nat) (news : List Value) (hx : a.eval x = .slice A m c) (hr : Reads w B size A m news) (h1 : ∀ u ∈ news, u.oneCell' = true)
    (h63 : n + m ≤ maxLen) (hbytes : (n + m) * bytes ≤ 140737488355328) (hbase : base ≤ w.heap.size)
    (h : ∀ A' n' c' w', n' = n + m → w'.ownsRow base e size (.slice A' n' c') n' (xs ++ news) → w.grownBy w' v.ownBlock → ((Value.slice A' n' c').ownBlock = v.ownBlock ∨ (Value.slice A' n' c').ownBlock = some w.heap.size) → wpList P ops Q rest (a.put o.dst (.slice A' n' c')) w') : wpList P ops Q (o :: rest) a w := by
  refine Go.BigFrame.wpList_want hw fun K hK => ?_
  refine wp_append_any w s x t ho base e i z size bytes ht hi hz hsize hby hzs hsz v n xs hs hown B A m c news hx hr h1 h63 hbytes hbase fun v' w' h2 h3 h4 => ?_
  obtain ⟨A', c', rfl⟩ := own_slice h2
  exact hK _ _ (h A' _ c' w' rfl h2 h3 h4)
end
theorem row_reads_at (w : World) (g : Nat) (h : w.heap.size = g) (l : List Value) (k size : Nat) (e : TypeId) (o : Obj) (ho : o = .cells l.toArray e) (hl : l.length = k * size) : Reads (w.alloc o) (g + 1) size (some ⟨g, 0, none⟩) k l := by
  subst h; exact rowN_reads w l k size e o ho hl
theorem u64s_one (x y : Int) : ∀ u ∈ [Value.int .u64 x, Value.int .u64 y], u.oneCell' = true := by
  intro u hu
  simp only [List.mem_cons, List.not_mem_nil, or_false] at hu
  rcases hu with rfl | rfl <;> rfl
/-- What Store leaves in memory. -/
def StoreW (w : World) (d lb cb i j : Nat) (exe off v : Int) (hv : Value) (m : Nat) (xs : List Value) (w' : World) : Prop :=
  ∃ A' m' c' W, m' = m + 1 ∧ W.ownsRow 0 130 2 (.slice A' m' c') m' (xs ++ [.int .u64 off, .int .u64 v]) ∧
    ((w.setCell ⟨d, 14, none⟩ (.int .u64 (IntKind.u64.wrap (exe + 1)))).alloc (.cells #[.int .u64 off, .int .u64 v] 130)).grownBy W hv.ownBlock ∧
    ((Value.slice A' m' c').ownBlock = hv.ownBlock ∨ (Value.slice A' m' c').ownBlock = some (w.heap.size + 1)) ∧
    w' = (W.setCell ⟨lb, i * 2 + 1, none⟩ (.slice A' m' c')).setCell ⟨cb, j, none⟩ (.int .u64 v)
def RetStore (w : World) (d lb cb i j : Nat) (exe off v : Int) (hv : Value) (m : Nat) (xs : List Value) (e : Ending) (w' : World) : Prop :=
  e = .returned (.tuple #[]) ∧ StoreW w d lb cb i j exe off v hv m xs w'
set_option maxRecDepth 100000 in
set_option maxHeartbeats 4000000 in
theorem store_core (L cc d th lb cb : Nat) (exe : Int) (off v : Nat) (hA : Option Addr) (m hc : Nat) (xs : List Value) (old : Value) (w : World) (h8 : ((off : Int) % 8 == 0) = true) (hlt : off < 64 * L) (hL : L ≤ 4096) (hm : m ≤ 1000000000)
    (f0 : w.cell? ⟨th, 0, none⟩ = some (.pointer (some ⟨d, 0, none⟩))) (f2 : w.cell? ⟨d, 2, none⟩ = some (.slice (some ⟨lb, 0, none⟩) L L)) (f11 : w.cell? ⟨d, 11, none⟩ = some (.bool false)) (f12 : w.cell? ⟨d, 12, none⟩ = some (.bool false)) (f14 : w.cell? ⟨d, 14, none⟩ = some (.int .u64 exe)) (z14 : w.frozen? ⟨d, 14, none⟩ = false)
    (f1 : w.cell? ⟨d, 1, none⟩ = some (.slice (some ⟨cb, 0, none⟩) (8 * L) cc))
    (fl : w.cell? ⟨lb, off / 64 * 2 + 1, none⟩ = some (.slice hA m hc)) (zl : w.frozen? ⟨lb, off / 64 * 2 + 1, none⟩ = false) (own : w.ownsRow 0 130 2 (.slice hA m hc) m xs)
    (fc : w.cell? ⟨cb, off / 8, none⟩ = some old) (zc : w.frozen? ⟨cb, off / 8, none⟩ = false)
    (n1 : d ≠ th) (n2 : d ≠ lb) (n3 : d ≠ cb) (n4 : th ≠ lb) (n5 : th ≠ cb) (n6 : lb ≠ cb) (o1 : (Value.slice hA m hc).ownBlock ≠ some d) (o2 : (Value.slice hA m hc).ownBlock ≠ some th) (o3 : (Value.slice hA m hc).ownBlock ≠ some lb) (o4 : (Value.slice hA m hc).ownBlock ≠ some cb) :
    Calls Tryz.prog 43 #[.pointer (some ⟨th, 0, none⟩), .int .u64 (off : Int), .int .u64 (v : Int)] w (RetStore w d lb cb (off / 64) (off / 8) exe off v (.slice hA m hc) m xs) := by
  have e1 : decide ((off : Int) < (L : Int) * 64) = true := decide_eq_true (by omega)
  have e5 : decide (off < L * 64) = true := decide_eq_true (by omega)
  have e2 : (off : Int) / 8 < 8 * (L : Int) := by omega
  have e3 : (0 : Int) ≤ (off : Int) / 8 := by omega
  have e4 : ((off : Int) / 8).toNat = off / 8 := by omega
  have e6 : (off : Int) / 64 < (L : Int) := by omega
  have e7 : (0 : Int) ≤ (off : Int) / 64 := by omega
  have e8 : ((off : Int) / 64).toNat = off / 64 := by omega
  have m1 := n1.symm
  have m2 := n2.symm
  have m3 := n3.symm
  have m4 := n4.symm
  have m5 := n5.symm
  have m6 := n6.symm
  obtain ⟨i0, hi0, hz0, hz1, hz2⟩ := info_parts infoWrite
  have bd := World.block_lt_of_cell? _ _ f1
  have bt := World.block_lt_of_cell? _ _ f0
  have bl := World.block_lt_of_cell? _ _ fl
  have bc := World.block_lt_of_cell? _ _ fc
  simp only at bd bt bl bc
  have HO : Hid (∀ o, ((w.setCell ⟨d, 14, none⟩ (.int .u64 (IntKind.u64.wrap (exe + 1)))).alloc o).ownsRow 0 130 2 (.slice hA m hc) m xs) := fun o =>
    (ownsRow_setCell_other own (a := ⟨d, 14, none⟩) o1 _).alloc o
  have HK : Hid (∀ o W, ((w.setCell ⟨d, 14, none⟩ (.int .u64 (IntKind.u64.wrap (exe + 1)))).alloc o).grownBy W (Value.slice hA m hc).ownBlock →
      W.cell? ⟨th, 0, none⟩ = some (.pointer (some ⟨d, 0, none⟩)) ∧ W.cell? ⟨d, 1, none⟩ = some (.slice (some ⟨cb, 0, none⟩) (8 * L) cc) ∧ W.cell? ⟨lb, off / 64 * 2 + 1, none⟩ = some (.slice hA m hc) ∧ W.frozen? ⟨lb, off / 64 * 2 + 1, none⟩ = false ∧ W.cell? ⟨cb, off / 8, none⟩ = some old ∧ W.frozen? ⟨cb, off / 8, none⟩ = false) := fun o W hg => by
    have hsz : ((w.setCell ⟨d, 14, none⟩ (.int .u64 (IntKind.u64.wrap (exe + 1)))).alloc o).heap.size = w.heap.size + 1 := by simp
    have kt := hg.block th (by omega) (fun e => o2 e.symm)
    have kd := hg.block d (by omega) (fun e => o1 e.symm)
    have kl := hg.block lb (by omega) (fun e => o3 e.symm)
    have kc := hg.block cb (by omega) (fun e => o4 e.symm)
    have qt : W.heap[th]? = w.heap[th]? := kt.trans ((Below.heap_alloc _ o th (by simpa using bt)).trans (Below.heap_setCell w ⟨d, 14, none⟩ _ th m1))
    have ql : W.heap[lb]? = w.heap[lb]? := kl.trans ((Below.heap_alloc _ o lb (by simpa using bl)).trans (Below.heap_setCell w ⟨d, 14, none⟩ _ lb m2))
    have qc : W.heap[cb]? = w.heap[cb]? := kc.trans ((Below.heap_alloc _ o cb (by simpa using bc)).trans (Below.heap_setCell w ⟨d, 14, none⟩ _ cb m3))
    refine ⟨(World.cell?_of_block (w := w) qt).trans f0, ?_, (World.cell?_of_block (w := w) ql).trans fl, (World.frozen?_of_block (w := w) ql).trans zl, (World.cell?_of_block (w := w) qc).trans fc, (World.frozen?_of_block (w := w) qc).trans zc⟩
    rw [World.cell?_of_block (a := ⟨d, 1, none⟩) kd, World.cell?_alloc_lt _ _ _ (by simpa using bd), World.cell?_setCell_other _ _ _ _ (by simp)]
    exact f1
  clear own
  go_enter Tryz.func43, Tryz.ntmps43
  go_wp2_with (first
    | (at_builtin; refine wpList_appL _ (.tmp 21) (.tmp 25) 120 rfl rfl 0 130 i0 _ 2 16 Tryz.underlying120 hi0 hz0 hz1 hz2 rfl ?q1 (.slice hA m hc) m xs rfl ?q0 (w.heap.size + 1) (some ⟨w.heap.size, 0, none⟩) 1 1 [.int .u64 (off : Int), .int .u64 (v : Int)] rfl ?q5 (u64s_one _ _) ?q2 ?q3 ?q4 ?_; (case q1 => omega); (case q0 => exact HO.out _); (case q5 => exact row_reads_at _ _ (by simp) _ 1 2 130 _ rfl rfl); (case q2 => (unfold maxLen; omega)); (case q3 => omega); (case q4 => (simp)); intro A3 n3' c3 w8 hn3 ho3 hg3 hl3; obtain ⟨g0, g1, gl, gzl, gc, gzc⟩ := HK.out _ _ hg3; have HN3 := Lib.hid hn3; have HO3 := Lib.hid ho3; have HG3 := Lib.hid hg3; have HL3 := Lib.hid hl3; clear hn3 ho3 hg3 hl3)
    | go_in)
  go_end0
  go_wp2
  go_end0
  exact ⟨rfl, A3, n3', c3, w8, HN3.out, HO3.out, HG3.out, by simpa using HL3.out, rfl⟩
end Go.Proofs.YtklpeghhgoeeiaaGreatDoor
/- The device's Store: what it leaves is a device. -/
namespace Go.Proofs.YtklpeghhgoeeiaaGreatDoor
open Go.RowKit
theorem map_ne_blk {H : Type} {P : Program} {k : TypeId} {R : Value → Option (DataW H × List MemPlace)} {w : World} {b n g : Nat} {D : DataW H} {t : TypeId} {cs : Array Value} (h : w.ownsMap P k R b n D) (hB : Blk w g t cs) : b ≠ g := by
  rintro rfl
  obtain ⟨es, clock, h1, _⟩ := h
  have h2 : w.heap[b]? = some (.cells cs t (0, 0)) := hB
  rw [h1] at h2
  cases h2
theorem map_ne_own {H : Type} {P : Program} {k : TypeId} {R : Value → Option (DataW H × List MemPlace)} {w : World} {b n : Nat} {D : DataW H} (h : w.ownsMap P k R b n D) {base : Nat} {e : TypeId} {size m : Nat} {v : Value} {xs : List Value} (ho : w.ownsRow base e size v m xs) : some b ≠ v.ownBlock := by
  intro he
  rcases ho.2 with ⟨rfl, _⟩ | ⟨g, cap, cur, rfl, _, hh, _⟩
  · simp [Value.ownBlock] at he
  · have : b = g := by simpa [Value.ownBlock] using he
    subst this
    exact map_ne_blk h (show Blk w b e cur from hh) rfl
theorem own_lt {w : World} {base : Nat} {e : TypeId} {size n : Nat} {v : Value} {xs : List Value} (h : w.ownsRow base e size v n xs) {g : Nat} (hg : v.ownBlock = some g) : g < w.heap.size := (h.lt g hg).2
theorem set_at {cs : Array Value} {j : Nat} {u : Value} (i : Nat) (hj : j < cs.size) : (cs.setIfInBounds j u)[i]? = if i = j then some u else cs[i]? := by
  rw [Array.getElem?_setIfInBounds]
  by_cases h : j = i
  · subst h; simp [hj]
  · rw [if_neg h, if_neg (fun e => h e.symm)]
theorem histOk_snoc {L m : Nat} {xs : List Value} (h : HistOk L m xs) (hl : xs.length = m * 2) (off v : Nat) (ho : off < 64 * L) : HistOk L (m + 1) (xs ++ [.int .u64 (off : Int), .int .u64 (v : Int)]) := by
  intro k hk
  rcases Nat.lt_or_ge k m with h1 | h1
  · obtain ⟨o, u, g1, g2, g3⟩ := h k h1
    exact ⟨o, u, by rw [List.getElem?_append_left (by omega)]; exact g1, by rw [List.getElem?_append_left (by omega)]; exact g2, g3⟩
  · obtain rfl : k = m := by omega
    refine ⟨off, v, ?_, ?_, ho⟩
    · rw [List.getElem?_append_right (by omega), hl, Nat.sub_self]; rfl
    · rw [List.getElem?_append_right (by omega), hl, show k * 2 + 1 - k * 2 = 1 by omega]; rfl
section
variable {a : DA} {L T : Nat} {w : World} {S : Fp} {cur : Nat → Nat} {s : LS} {exe : Int} {per cs ls : Array Value}
theorem store_any (h : DevC a L T w S cur s exe per cs ls) (hN : NoteC a L w s 0) (off v : Nat) (h8 : off % 8 = 0) (hlt : off < 64 * L) (hT : T < 1000000000) :
    Calls Tryz.prog 43 #[.pointer (some ⟨a.th 0, 0, none⟩), .int .u64 (off : Int), .int .u64 (v : Int)] w (RetDev a L (T + 1) w S (upd cur (off / 8) v) 0 (.tuple #[])) := by
  obtain ⟨f0, f2, f11, f1, _⟩ := h.facts (j := 0) (by omega)
  have hi : off / 64 < L := by omega
  have hj : off / 8 < 8 * L := by omega
  have ho := h.own _ hi
  have hfew := h.few _ hi
  obtain ⟨hA, hc, hv⟩ := own_slice ho
  have hth := h.thr 0 (by omega)
  have n1 : a.d ≠ a.th 0 := h.dev.ne_ hth (by decide)
  have n2 : a.d ≠ a.lb := h.dev.ne_ h.linB (by decide)
  have n3 : a.d ≠ a.cb := h.dev.ne_ h.curB (by decide)
  have n4 : a.th 0 ≠ a.lb := hth.ne_ h.linB (by decide)
  have n5 : a.th 0 ≠ a.cb := hth.ne_ h.curB (by decide)
  have n6 : a.lb ≠ a.cb := h.linB.ne_ h.curB (by decide)
  have n7 : a.d ≠ a.pb := h.dev.ne_ h.perB (by decide)
  have n8 : a.lb ≠ a.pb := h.linB.ne_ h.perB (by decide)
  have o1 := own_blk_ne ho h.dev (by decide)
  have o2 := own_blk_ne ho hth (by decide)
  have o3 := own_blk_ne ho h.linB (by decide)
  have o4 := own_blk_ne ho h.curB (by decide)
  have o5 := own_blk_ne ho h.perB (by decide)
  have hcs := h.curS
  have hcl := h.curL
  have hls := h.linS
  refine (store_core L a.cc a.d (a.th 0) a.lb a.cb exe off v hA (s.m (off / 64)) hc (s.xs (off / 64)) (.int .u64 (cur (off / 8) : Int)) w (by rw [beq_iff_eq]; omega) hlt h.hL (by omega) f0 f2 f11 (h.dev.cell 12) (h.dev.cell 14) (h.dev.frozen 14) f1
    (by rw [h.linB.cell, h.linH _ hi, hv]) (h.linB.frozen _) (hv ▸ ho) (by rw [h.curB.cell]; exact h.curI _ hj) (h.curB.frozen _) n1 n2 n3 n4 n5 n6 (hv ▸ o1) (hv ▸ o2) (hv ▸ o3) (hv ▸ o4)).mono ?_
  rintro e w' ⟨rfl, A', m', c', W, hm, ho', hg, hl, rfl⟩
  rw [← hv] at hg hl
  have hsz : w.heap.size + 1 ≤ W.heap.size := by have := hg.size; simp at this; exact this
  -- the blocks behind the append
  have k0 : ∀ {g : Nat} {t : TypeId} {xs : Array Value}, Blk w g t xs → g ≠ a.d → some g ≠ (s.h (off / 64)).ownBlock → Blk W g t xs := fun hB h1 h2 => ((hB.far (p := ⟨a.d, 14, none⟩) h1 _).alloc _).grown hg h2
  have kd : Blk W a.d _ (devCells a L (IntKind.u64.wrap (exe + 1))) := ((h.dev.set_ 14 _).alloc _).grown hg (fun e => o1 e.symm)
  have kl := k0 h.linB n2.symm (fun e => o3 e.symm)
  have kc := k0 h.curB n3.symm (fun e => o4 e.symm)
  have kp := k0 h.perB n7.symm (fun e => o5 e.symm)
  have kt : ∀ j, j < 8 → Blk W (a.th j) _ #[.pointer (some ⟨a.d, 0, none⟩), .int .i64 (j : Int), .int .i64 0, .map (some (a.nt j))] := fun j hj' => k0 (h.thr j hj') ((h.thr j hj').ne_ h.dev (by decide)) (fun e => own_blk_ne ho (h.thr j hj') (by decide) e.symm)
  have p3 := own_blk_ne ho' kl (by decide)
  have p4 := own_blk_ne ho' kc (by decide)
  obtain ⟨l0, hmap, hnotes⟩ := hN
  have hmW : W.ownsMap Tryz.prog 3 (plainElem Tryz.prog 35) (a.nt 0) 0 (.map l0) := ((hmap.setCell (a := ⟨a.d, 14, none⟩) (map_ne_blk hmap h.dev) _).alloc _).kept hg (map_ne_own hmap ho)
  have hl0 : l0 = [] := by
    have := hmap.size_le
    exact List.eq_nil_of_length_eq_zero (by simpa [Maps.size] using this)
  refine ⟨rfl, fun k => S k ∨ (Value.slice A' m' c').ownBlock = some k, ⟨⟨s.dn, fun k => if k = off / 64 then m' else s.m k, fun k => if k = off / 64 then .slice A' m' c' else s.h k, fun k => if k = off / 64 then s.xs (off / 64) ++ [.int .u64 (off : Int), .int .u64 (v : Int)] else s.xs k⟩, IntKind.u64.wrap (exe + 1), per, cs.setIfInBounds (off / 8) (.int .u64 (v : Int)), ls.setIfInBounds (off / 64 * 2 + 1) (.slice A' m' c'), ?_, ?_⟩, ?_, ?_⟩
  · have hold : ∀ k, k < L → k ≠ off / 64 → ((W.setCell ⟨a.lb, off / 64 * 2 + 1, none⟩ (.slice A' m' c')).setCell ⟨a.cb, off / 8, none⟩ (.int .u64 (v : Int))).ownsRow 0 _ 2 (s.h k) (s.m k) (s.xs k) := fun k hk hne => by
      have h1 := h.own k hk
      have h2 := ((ownsRow_setCell_other h1 (a := ⟨a.d, 14, none⟩) (own_blk_ne h1 h.dev (by decide)) (.int .u64 (IntKind.u64.wrap (exe + 1)))).alloc (.cells #[.int .u64 (off : Int), .int .u64 (v : Int)] 130)).kept hg ?_
      · have h3 := own_blk_ne h2 kl (by decide)
        have h4 := own_blk_ne h2 kc (by decide)
        exact ownsRow_setCell_other (ownsRow_setCell_other h2 (a := ⟨a.lb, off / 64 * 2 + 1, none⟩) h3 _) (a := ⟨a.cb, off / 8, none⟩) h4 _
      · cases hb : (s.h k).ownBlock with
        | none => exact .inl rfl
        | some g => exact .inr (fun e => hne (h.apart k _ g hk hi hb e.symm))
    exact
    { dev := (kd.far (p := ⟨a.lb, off / 64 * 2 + 1, none⟩) n2 _).far (p := ⟨a.cb, off / 8, none⟩) n3 _
      perB := (kp.far (p := ⟨a.lb, off / 64 * 2 + 1, none⟩) n8.symm _).far (p := ⟨a.cb, off / 8, none⟩) h.ne _
      perS := h.perS
      perI := h.perI
      curB := (kc.far (p := ⟨a.lb, off / 64 * 2 + 1, none⟩) n6.symm _).set_ (off / 8) _
      curS := by simpa using h.curS
      curL := h.curL
      curM := h.curM
      curI := fun k hk => by
        rw [set_at k (by omega)]
        unfold upd
        by_cases hkj : k = off / 8
        · rw [if_pos hkj, if_pos hkj]
        · rw [if_neg hkj, if_neg hkj]; exact h.curI k hk
      linB := ((kl.set_ (off / 64 * 2 + 1) _).far (p := ⟨a.cb, off / 8, none⟩) n6 _)
      linS := by simpa using h.linS
      linD := fun k hk => by rw [set_at _ (by omega), if_neg (by omega)]; exact h.linD k hk
      linH := fun k hk => by
        rw [set_at _ (by omega)]
        by_cases hki : k = off / 64
        · rw [if_pos (by omega)]; simp only [if_pos hki]
        · rw [if_neg (by omega)]; simp only [if_neg hki]; exact h.linH k hk
      own := fun k hk => by
        by_cases hki : k = off / 64
        · simp only [if_pos hki]
          exact ownsRow_setCell_other (ownsRow_setCell_other ho' (a := ⟨a.lb, off / 64 * 2 + 1, none⟩) p3 _) (a := ⟨a.cb, off / 8, none⟩) p4 _
        · simp only [if_neg hki]
          exact hold k hk hki
      ok := fun k hk => by
        by_cases hki : k = off / 64
        · simp only [if_pos hki, hm]
          exact histOk_snoc (h.ok _ hi) ho.1 off v hlt
        · simp only [if_neg hki]
          exact h.ok k hk
      few := fun k hk => by
        have := h.few k hk
        by_cases hki : k = off / 64
        · subst hki; simp only [if_true]; omega
        · simp only [if_neg hki]; omega
      apart := fun x y g hx hy h1 h2 => by
        by_cases hx' : x = off / 64 <;> by_cases hy' : y = off / 64
        · omega
        · simp only [if_pos hx'] at h1
          simp only [if_neg hy'] at h2
          rcases hl with hl | hl
          · rw [hl] at h1; have := h.apart _ y g hi hy h1 h2; omega
          · rw [hl] at h1
            have h3 := own_lt (h.own y hy) h2
            injection h1 with h1
            omega
        · simp only [if_neg hx'] at h1
          simp only [if_pos hy'] at h2
          rcases hl with hl | hl
          · rw [hl] at h2; have := h.apart x _ g hx hi h1 h2; omega
          · rw [hl] at h2
            have h3 := own_lt (h.own x hx) h1
            injection h2 with h2
            omega
        · simp only [if_neg hx'] at h1
          simp only [if_neg hy'] at h2
          exact h.apart x y g hx hy h1 h2
      thr := fun j hj' => ((kt j hj').far (p := ⟨a.lb, off / 64 * 2 + 1, none⟩) ((h.thr j hj').ne_ h.linB (by decide)) _).far (p := ⟨a.cb, off / 8, none⟩) ((h.thr j hj').ne_ h.curB (by decide)) _
      sd := .inl h.sd
      sp := .inl h.sp
      sc := .inl h.sc
      sl := .inl h.sl
      sn := .inl h.sn
      st := fun j hj' => .inl (h.st j hj')
      sh := fun k g hk hg' => by
        by_cases hki : k = off / 64
        · simp only [if_pos hki] at hg'; exact .inr hg'
        · simp only [if_neg hki] at hg'; exact .inl (h.sh k g hk hg')
      lt := fun k hk => by
        have hsz' : ((W.setCell ⟨a.lb, off / 64 * 2 + 1, none⟩ (.slice A' m' c')).setCell ⟨a.cb, off / 8, none⟩ (.int .u64 (v : Int))).heap.size = W.heap.size := by simp
        rw [hsz']
        rcases hk with hk | hk
        · have := h.lt k hk; omega
        · exact own_lt ho' hk
      ne := h.ne
      hL := h.hL
      hT := by omega }
  · refine ⟨l0, ?_, fun p hp => by rw [hl0] at hp; cases hp⟩
    have h1 := hmW.setCell (a := ⟨a.lb, off / 64 * 2 + 1, none⟩) (map_ne_blk hmW kl) (.slice A' m' c')
    exact h1.setCell (a := ⟨a.cb, off / 8, none⟩) (map_ne_blk hmW kc) _
  · have c1 : Chg S w W := (((Chg.refl S w).setCell (p := ⟨a.d, 14, none⟩) (.inl h.sd) _).alloc _).grown hg (fun g hg' => .inl (h.sh _ g hi hg'))
    exact (c1.setCell (p := ⟨a.lb, off / 64 * 2 + 1, none⟩) (.inl h.sl) _).setCell (p := ⟨a.cb, off / 8, none⟩) (.inl h.sc) _
  · intro k hk
    rcases hk with hk | hk
    · exact .inl hk
    · rcases hl with hl | hl
      · rw [hl] at hk; exact .inl (h.sh _ k hi hk)
      · rw [hl] at hk
        injection hk with hk
        exact .inr (by omega)
end
end Go.Proofs.YtklpeghhgoeeiaaGreatDoor
/- A region that draws its order: loads first, then one operation that makes memory and may come ahead of loads, then the rest in a forced order, its last store onto a cell that was loaded. -/
namespace Go.Proofs.YtklpeghhgoeeiaaGreatDoor
open Go.RowKit

section
variable {P : Program} {ops : Array Oper} {Q : Exit → Act → World → Prop} {md : Region.Mode} {S : World → Prop} {m : Nat}

/-- Whatever order is picked, and S holds behind every operation whose number is below m. -/
def wpAnyG (P : Program) (md : Region.Mode) (ops : Array Oper) (Q : Exit → Act → World → Prop) (S : World → Prop) (m : Nat) : Nat → Array Bool → Act → World → Prop
  | 0, listed, a, w => Region.ready md ops listed = [] ∧ Q .normal a w
  | fuel + 1, listed, a, w =>
    (Region.ready md ops listed = [] → Q .normal a w) ∧
    ∀ i ∈ Region.ready md ops listed, wpOp P ops Q i (fun a' w' => (i < m → S w') ∧ wpAnyG P md ops Q S m fuel (listed.setIfInBounds i true) a' w') a w

theorem wpAny_of_G : ∀ (fuel : Nat) (listed : Array Bool) (a : Act) (w : World), wpAnyG P md ops Q S m fuel listed a w → wpAny P md ops Q fuel listed a w
  | 0, _, _, _, h => h
  | fuel + 1, _, _, _, h => ⟨h.1, fun i hi => wpOp_mono (fun a' w' h' => wpAny_of_G fuel _ a' w' h'.2) (h.2 i hi)⟩

theorem wpAnyG_first {i : Nat} {oi : Oper} {v : Value} (hi : ops[i]? = some oi) (hsel : ∀ (j : Nat) (o : Oper) cs b, ops[j]? = some o → o.op ≠ .select cs b)
    (hs : Region.sinkB md ops m = true) (hc : Region.chainB md ops m = true) (hm : m < ops.size) (him : i < m)
    (hQ : ∀ c a w, Q (.panic c) (a.put oi.dst v) w → Q (.panic c) a w) :
    ∀ (fuel : Nat) (listed : Array Bool) (a : Act) (w : World), HeadInv md ops m listed →
      (∀ j oj, ops[j]? = some oj → j ≠ i → listed.getD j true = false → (∀ e ∈ oj.after, Region.binds md e = true → e.on ≠ i) → oi.apart ops oj = true) →
      i ∈ Region.ready md ops listed → YieldsIf P ops S oi v a → S w →
      wpAnyG P md ops Q S m fuel (listed.setIfInBounds i true) (a.put oi.dst v) w → wpAnyG P md ops Q S m (fuel + 1) listed a w := by
  intro fuel
  induction fuel with
  | zero =>
    intro listed a w _ _ hr hy hS H
    refine ⟨fun h => (by rw [h] at hr; cases hr), fun j hj => ?_⟩
    by_cases hji : j = i
    · subst hji; exact hy.wpOp hi hS ⟨fun _ => hS, H⟩
    · have := ready_mono hj hji
      rw [H.1] at this
      cases this
  | succ fuel ih =>
    intro listed a w inv hfree hr hy hS H
    have hun := (mem_ready.1 hr).1
    refine ⟨fun h => (by rw [h] at hr; cases hr), fun j hj => ?_⟩
    by_cases hji : j = i
    · subst hji; exact hy.wpOp hi hS ⟨fun _ => hS, H⟩
    · have hjm : j < m := by
        rcases Nat.lt_or_ge j m with h | h
        · exact h
        · exact absurd hj (tail_waits hs hc hm inv _ i rfl him hun j h)
      have h1 := H.2 j (ready_mono hj hji)
      obtain ⟨hjun, oj, hoj, hall⟩ := mem_ready.1 hj
      have hnot : ∀ e ∈ oj.after, Region.binds md e = true → e.on ≠ i := fun e he hb heq => by
        have h1 := hall e he hb
        rw [heq, getD_both hun] at h1
        cases h1
      have h2 := wpOp_putIf hoj (hfree j oj hoj hji hjun hnot) (fun cs b => hsel i oi cs b hi) (fun cs b => hsel j oj cs b hoj) hQ hy h1
      have hfree' : ∀ k ok, ops[k]? = some ok → k ≠ i → (listed.setIfInBounds j true).getD k true = false →
          (∀ e ∈ ok.after, Region.binds md e = true → e.on ≠ i) → oi.apart ops ok = true := fun k ok hk hki hun hno => by
        refine hfree k ok hk hki ?_ hno
        by_cases hjk : j = k
        · subst hjk; exact hjun
        · rw [getD_set_ne true hjk] at hun; exact hun
      refine wpOp_mono (fun a' w' h3 => ⟨h3.2.1, ih (listed.setIfInBounds j true) a' w' (inv.set hj hjm) hfree' (ready_mono hr (Ne.symm hji)) h3.1 (h3.2.1 hjm) ?_⟩) h2
      rw [Array.setIfInBounds_comm _ _ hji]
      exact h3.2.2

/-- A forced order from number m on: nothing is owed. -/
theorem wpAnyG_of_seq : ∀ (l : List Oper) (k : Nat) (listed : Array Bool) (a : Act) (w : World), m ≤ k → (∀ j, l[j]? = ops[k + j]?) →
    Region.seqB md ops l.length k listed = true → wpList P ops Q l a w → wpAnyG P md ops Q S m l.length listed a w
  | [], _, _, _, _, _, _, hB, h => ⟨by simpa [Region.seqB] using hB, h⟩
  | o :: l, k, listed, a, w, hk, hl, hB, h => by
    have h0 : ops[k]? = some o := by simpa using (hl 0).symm
    simp only [List.length_cons, Region.seqB, Bool.and_eq_true, decide_eq_true_eq] at hB
    refine ⟨fun h1 => (by rw [hB.1] at h1; cases h1), fun i hi => ?_⟩
    rw [hB.1] at hi
    have hik : i = k := by simpa using hi
    subst hik
    have hw : wpOp P ops Q i (wpList P ops Q l) a w := by unfold wpOp; simp only [h0]; exact h
    exact wpOp_mono (fun a' w' h' => ⟨fun hlt => absurd hlt (by omega), wpAnyG_of_seq l (i + 1) _ a' w' (by omega) (fun j => by have := hl (j + 1); simpa [Nat.add_assoc, Nat.add_comm 1 j] using this) hB.2 h'⟩) hw

/-- Behind one operation: S, and what follows. -/
def ThenS (S : World → Prop) (Q : Exit → Act → World → Prop) (L : Act → World → Prop) : Exit → Act → World → Prop
  | .normal, a, w => S w ∧ L a w
  | e, a, w => Q e a w

/-- The loads, one after the other. -/
def wpHeld (P : Program) (ops : Array Oper) (S : World → Prop) (L : Act → Prop) : List Oper → Act → Prop
  | [], a => L a
  | o :: l, a => ∃ v, YieldsIf P ops S o v a ∧ wpHeld P ops S L l (a.put o.dst v)
theorem wpHeld_take {L : Act → Prop} {o : Oper} {l : List Oper} {a : Act} (v : Value) (hw : Region.wanted o (yielded ops a.tmps) = true) (hy : ∀ w, S w → (execOp a.eval o).run P w = .ok (.value v) w) (h : wpHeld P ops S L l (a.put o.dst v)) : wpHeld P ops S L (o :: l) a :=
  ⟨v, .inl ⟨hw, hy⟩, h⟩

theorem wpAnyG_lex {n g : Nat} {L : Act → Prop} {w : World} (hsel : Region.noSelect ops = true) (hs : Region.sinkB md ops m = true) (hc : Region.chainB md ops m = true) (hm : m < ops.size) (hnm : n ≤ m)
    (hQ : ∀ c a a' w, Q (.panic c) a w → Q (.panic c) a' w) (hS : S w)
    (hL : ∀ listed a, Region.seqB md ops g n listed = true → L a → wpAnyG P md ops Q S m g listed a w) :
    ∀ (l : List Oper) (k : Nat) (listed : Array Bool) (a : Act), (∀ j, j < l.length → l[j]? = ops[k + j]?) → k + l.length = n → HeadInv md ops m listed →
    Region.lexHead md ops g l.length k listed = true → wpHeld P ops S L l a → wpAnyG P md ops Q S m (l.length + g) listed a w
  | [], k, listed, a, _, hk, _, hB, h => by
    have : k = n := by simpa using hk
    subst this
    rw [List.length_nil, Nat.zero_add]
    exact hL listed a (by simpa [Region.lexHead] using hB) h
  | o :: l, k, listed, a, hl, hk, inv, hB, h => by
    have h0 : ops[k]? = some o := by simpa using (hl 0 (by simp)).symm
    simp only [List.length_cons, Region.lexHead, Bool.and_eq_true] at hB
    obtain ⟨⟨hr, hf⟩, hB'⟩ := hB
    have hkm : k < m := by simp only [List.length_cons] at hk; omega
    have hr' : k ∈ Region.ready md ops listed := by simpa using hr
    obtain ⟨v, hy, hK⟩ := h
    rw [List.length_cons, show l.length + 1 + g = (l.length + g) + 1 by omega]
    exact wpAnyG_first h0 (Region.noSelect_spec hsel) hs hc hm hkm (fun c a' w' => hQ c _ _ w') (l.length + g) listed a w inv (Region.free_spec h0 hf) hr' hy hS
      (wpAnyG_lex hsel hs hc hm hnm hQ hS hL l (k + 1) _ _ (fun j hj => by have := hl (j + 1) (by simp; omega); simpa [Nat.add_assoc, Nat.add_comm 1 j] using this) (by simp only [List.length_cons] at hk; omega) (inv.set hr' hkm) hB' hK)

def heldTailB (l : List Oper) (n : Nat) : Bool :=
  Region.noSelect l.toArray && decide (n + 1 < l.toArray.size) && Region.sinkB .any l.toArray (n + 1) && Region.chainB .any l.toArray (n + 1) && Region.lexHead .any l.toArray (l.toArray.size - n) n 0 (Array.replicate l.toArray.size false)
end
/-- The first n operations are loads and the like in S; number n may come ahead of them and keeps S; then the forced order. -/
theorem wp_region_held_tail {P : Program} {Q : Exit → Act → World → Prop} {id : Nat} {a : Act} {w : World} {l : List Oper} {o : Oper} {rest : List Oper} (S : World → Prop) (n : Nat) (hm : P.follows .mixedOrders = true) (hB : heldTailB l n = true) (hd : l.drop n = o :: rest)
    (hS : S w.drew) (h : wpHeld P l.toArray S (fun a' => wpList P l.toArray (ThenS S (NoPanic Q) (wpList P l.toArray (NoPanic Q) rest)) [o] a' w.drew) (l.take n) a) : (Code.region id l.toArray true).wp P Q a w := by
  refine wp_region_noPanic ?_
  simp only [heldTailB, Bool.and_eq_true, decide_eq_true_eq] at hB
  obtain ⟨⟨⟨⟨hsel, hn⟩, hs⟩, hc⟩, hlex⟩ := hB
  have hn' : n + 1 < l.length := by simpa using hn
  have htl : (l.take n).length = n := by simp; omega
  have hrl : rest.length + 1 = l.toArray.size - n := by have := congrArg List.length hd; simp at this ⊢; omega
  have hat : ∀ j, (o :: rest)[j]? = l.toArray[n + j]? := fun j => by rw [← hd, List.getElem?_drop]; simp
  have inv0 : HeadInv .any l.toArray (n + 1) (Array.replicate l.toArray.size false) :=
    ⟨by simp, fun j oj _ hl => (by rw [getD_replicate_false] at hl; cases hl), fun t _ ht => getD_in (by simpa using ht) (getD_replicate_false _ _)⟩
  refine wp_region_any hm (wpAny_of_G (S := S) (m := n + 1) _ _ _ _ ?_)
  have := wpAnyG_lex (P := P) (Q := NoPanic Q) (md := .any) (S := S) (m := n + 1) (n := n) (g := l.toArray.size - n) hsel hs hc hn (Nat.le_succ _) (fun _ _ _ _ h => h) hS
    (fun listed a' hseq hL => ?_) (l.take n) 0 _ a (fun j hj => by
      have hj' : j < n := by rw [htl] at hj; exact hj
      simp [hj']) (by simpa using htl) inv0 (by rw [htl]; exact hlex) h
  · rw [htl, show n + (l.toArray.size - n) = l.toArray.size by omega] at this
    exact this
  · rw [← hrl] at hseq ⊢
    simp only [Region.seqB, Bool.and_eq_true, decide_eq_true_eq] at hseq
    refine ⟨fun h1 => (by rw [hseq.1] at h1; cases h1), fun i hi => ?_⟩
    rw [hseq.1] at hi
    have hik : i = n := by simpa using hi
    subst hik
    have h0 : l.toArray[i]? = some o := by simpa using (hat 0).symm
    have hw : wpOp P l.toArray (ThenS S (NoPanic Q) (wpList P l.toArray (NoPanic Q) rest)) i (fun a' w' => S w' ∧ wpList P l.toArray (NoPanic Q) rest a' w') a' w.drew := by
      unfold wpOp; simp only [h0]; exact hL
    have hw2 : wpOp P l.toArray (NoPanic Q) i (fun a' w' => S w' ∧ wpList P l.toArray (NoPanic Q) rest a' w') a' w.drew := by
      unfold wpOp at hw ⊢
      simp only [h0] at hw ⊢
      exact hw
    exact wpOp_mono (fun a'' w'' h' => ⟨fun _ => h'.1, wpAnyG_of_seq rest (i + 1) _ a'' w'' (Nat.le_refl _) (fun j => by have := hat (j + 1); simpa [Nat.add_assoc, Nat.add_comm 1 j] using this) hseq.2 h'.2⟩) hw2
end Go.Proofs.YtklpeghhgoeeiaaGreatDoor
/- A region that draws its order: loads first, then some operations in a forced order that may come ahead of loads and keep S, then the rest. -/
namespace Go.Proofs.YtklpeghhgoeeiaaGreatDoor
open Go.RowKit

section
variable {P : Program} {ops : Array Oper} {Q : Exit → Act → World → Prop} {md : Region.Mode} {S : World → Prop} {m : Nat}
/-- Operation by operation, S behind each. -/
def wpListS (P : Program) (ops : Array Oper) (Q : Exit → Act → World → Prop) (S : World → Prop) (L : Act → World → Prop) : List Oper → Act → World → Prop
  | [], a, w => L a w
  | o :: rest, a, w => wpList P ops (ThenS S Q (wpListS P ops Q S L rest)) [o] a w
theorem wpAnyG_mid {rest : List Oper} : ∀ (l : List Oper) (k : Nat) (listed : Array Bool) (a : Act) (w : World), k + l.length = m → (∀ j, (l ++ rest)[j]? = ops[k + j]?) →
    Region.seqB md ops (l ++ rest).length k listed = true → wpListS P ops Q S (wpList P ops Q rest) l a w → wpAnyG P md ops Q S m (l ++ rest).length listed a w
  | [], k, listed, a, w, hk, hl, hB, h => by
    have : k = m := by simpa using hk
    subst this
    exact wpAnyG_of_seq rest k listed a w (Nat.le_refl _) hl hB h
  | o :: l, k, listed, a, w, hk, hl, hB, h => by
    have h0 : ops[k]? = some o := by simpa using (hl 0).symm
    simp only [List.cons_append, List.length_cons, Region.seqB, Bool.and_eq_true, decide_eq_true_eq] at hB
    refine ⟨fun h1 => (by rw [hB.1] at h1; cases h1), fun i hi => ?_⟩
    rw [hB.1] at hi
    have hik : i = k := by simpa using hi
    subst hik
    have hw : wpOp P ops (ThenS S Q (wpListS P ops Q S (wpList P ops Q rest) l)) i (fun a' w' => S w' ∧ wpListS P ops Q S (wpList P ops Q rest) l a' w') a w := by
      unfold wpOp; simp only [h0]; exact h
    have hw2 : wpOp P ops Q i (fun a' w' => S w' ∧ wpListS P ops Q S (wpList P ops Q rest) l a' w') a w := by
      unfold wpOp at hw ⊢
      simp only [h0] at hw ⊢
      exact hw
    exact wpOp_mono (fun a' w' h' => ⟨fun _ => h'.1, wpAnyG_mid l (i + 1) _ a' w' (by simp only [List.length_cons] at hk; omega) (fun j => by have := hl (j + 1); simpa [Nat.add_assoc, Nat.add_comm 1 j] using this) hB.2 h'.2⟩) hw2
end
def heldMidB (l : List Oper) (n m : Nat) : Bool :=
  Region.noSelect l.toArray && decide (m < l.toArray.size) && decide (n ≤ m) && Region.sinkB .any l.toArray m && Region.chainB .any l.toArray m && Region.lexHead .any l.toArray (l.toArray.size - n) n 0 (Array.replicate l.toArray.size false)
theorem wp_region_held_mid {P : Program} {Q : Exit → Act → World → Prop} {id : Nat} {a : Act} {w : World} {l : List Oper} {rest : List Oper} (mid : List Oper) (S : World → Prop) (n m : Nat) (hm : P.follows .mixedOrders = true) (hB : heldMidB l n m = true) (hd : l.drop n = mid ++ rest) (hmm : n + mid.length = m)
    (hS : S w.drew) (h : wpHeld P l.toArray S (fun a' => wpListS P l.toArray (NoPanic Q) S (wpList P l.toArray (NoPanic Q) rest) mid a' w.drew) (l.take n) a) : (Code.region id l.toArray true).wp P Q a w := by
  refine wp_region_noPanic ?_
  simp only [heldMidB, Bool.and_eq_true, decide_eq_true_eq] at hB
  obtain ⟨⟨⟨⟨⟨hsel, hn⟩, hnm⟩, hs⟩, hc⟩, hlex⟩ := hB
  have hn' : m < l.length := by simpa using hn
  have htl : (l.take n).length = n := by simp; omega
  have hrl : (mid ++ rest).length = l.toArray.size - n := by rw [← hd]; simp
  have hat : ∀ j, (mid ++ rest)[j]? = l.toArray[n + j]? := fun j => by rw [← hd, List.getElem?_drop]; simp
  have inv0 : HeadInv .any l.toArray m (Array.replicate l.toArray.size false) :=
    ⟨by simp, fun j oj _ hl => (by rw [getD_replicate_false] at hl; cases hl), fun t _ ht => getD_in (by simpa using ht) (getD_replicate_false _ _)⟩
  refine wp_region_any hm (wpAny_of_G (S := S) (m := m) _ _ _ _ ?_)
  have := wpAnyG_lex (P := P) (Q := NoPanic Q) (md := .any) (S := S) (m := m) (n := n) (g := l.toArray.size - n) hsel hs hc hn hnm (fun _ _ _ _ h => h) hS
    (fun listed a' hseq hL => by
      rw [← hrl] at hseq ⊢
      exact wpAnyG_mid mid n listed a' _ hmm hat hseq hL) (l.take n) 0 _ a (fun j hj => by
      have hj' : j < n := by rw [htl] at hj; exact hj
      simp [hj']) (by simpa using htl) inv0 (by rw [htl]; exact hlex) h
  rw [htl, show n + (l.toArray.size - n) = l.toArray.size by simp; omega] at this
  exact this
end Go.Proofs.YtklpeghhgoeeiaaGreatDoor
