/- The walks and laws that the claim leans on, part 1: each part says ahead of its lines what it holds. -/
import Derived.Test.YtklpeghhgoeeiaaGreatDoorKba
import Derived.Deep.Slices
import Derived.Deep.Fields
/- What comes in as lists of pairs of words, and as calls. -/
namespace Go.Proofs.YtklpeghhgoeeiaaGreatDoor
open Go.ChangeShapes Go.WideShapes Go.ChangeAt Go.RowKit
/-- Elements that were read one by one are a list. -/
theorem reads_elems {α : Type} (cells : α → List Value) (size : Nat) (hs : 0 < size) (hlen : ∀ x, (cells x).length = size) (w : World) (a : Addr) (ok : α → Prop) :
    ∀ n, (∀ i, i < n → ∃ x, ok x ∧ ∀ j, j < size → w.cell? (a.add (i * size + j)) = (cells x)[j]?) →
      ∃ l : List α, l.length = n ∧ (∀ x ∈ l, ok x) ∧ (l.flatMap cells).length = n * size ∧ ∀ j u, (l.flatMap cells)[j]? = some u → w.cell? (a.add j) = some u
  | 0, _ => ⟨[], rfl, (fun _ h => by cases h), by simp, (fun j u h => by simp at h)⟩
  | n + 1, h => by
    obtain ⟨l, h1, h2, h3, h4⟩ := reads_elems cells size hs hlen w a ok n (fun i hi => h i (by omega))
    obtain ⟨x, hx, hc⟩ := h n (by omega)
    refine ⟨l ++ [x], by simp [h1], fun y hy => ?_, ?_, fun j u hu => ?_⟩
    · rcases List.mem_append.1 hy with hy | hy
      · exact h2 y hy
      · rw [List.mem_singleton] at hy; subst hy; exact hx
    · simp only [List.flatMap_append, List.length_append, h3, List.flatMap_cons, List.flatMap_nil, List.append_nil, hlen]
      rw [Nat.succ_mul]
    · simp only [List.flatMap_append, List.flatMap_cons, List.flatMap_nil, List.append_nil] at hu
      rcases Nat.lt_or_ge j (n * size) with hj | hj
      · rw [List.getElem?_append_left (by omega)] at hu
        exact h4 j u hu
      · rw [List.getElem?_append_right (by omega), h3] at hu
        have hjl : j - n * size < size := by
          have := (List.getElem?_eq_some_iff.1 hu).1
          rw [hlen] at this; exact this
        have := hc (j - n * size) hjl
        rw [show n * size + (j - n * size) = j by omega] at this
        rw [this]; exact hu
theorem one_at {cs : List Value} {j : Nat} {v : Value} (h : (cs.drop j).take 1 = [v]) : cs[j]? = some v := by
  have h0 : ((cs.drop j).take 1)[0]? = some v := by rw [h]; rfl
  rw [List.getElem?_take] at h0
  simpa [List.getElem?_drop] using h0
theorem pair_cells {cs : List Value} {v0 v1 : Value} (hl : cs.length = 2) (d0 : cs[0]? = some v0) (d1 : cs[1]? = some v1) : cs = [v0, v1] := by
  match cs, hl with
  | [a0, a1], _ =>
    simp at d0 d1
    subst d0 d1
    rfl
theorem four_cells {cs : List Value} {v0 v1 v2 v3 : Value} (hl : cs.length = 4) (d0 : cs[0]? = some v0) (d1 : cs[1]? = some v1) (d2 : cs[2]? = some v2) (d3 : cs[3]? = some v3) : cs = [v0, v1, v2, v3] := by
  match cs, hl with
  | [a0, a1, a2, a3], _ =>
    simp at d0 d1 d2 d3
    subst d0 d1 d2 d3
    rfl
theorem wf_u64 {n : Int} (hw : (Lit.int .u64 n).wf = true) : ∃ k : Nat, n = (k : Int) ∧ k < 18446744073709551616 := by
  have hb : 0 ≤ n ∧ n < 18446744073709551616 := by
    have hm : IntKind.u64.min = 0 := by decide
    have hx : IntKind.u64.max = 18446744073709551615 := by decide
    simp only [Lit.wf, hm, hx, Bool.and_eq_true, decide_eq_true_eq] at hw
    omega
  exact ⟨n.toNat, by rw [Int.toNat_of_nonneg hb.1], by omega⟩
theorem wf_u8 {n : Int} (hw : (Lit.int .u8 n).wf = true) : ∃ k : Nat, n = (k : Int) ∧ k < 256 := by
  have hb : 0 ≤ n ∧ n < 256 := by
    have hm : IntKind.u8.min = 0 := by decide
    have hx : IntKind.u8.max = 255 := by decide
    simp only [Lit.wf, hm, hx, Bool.and_eq_true, decide_eq_true_eq] at hw
    omega
  exact ⟨n.toNat, by rw [Int.toNat_of_nonneg hb.1], by omega⟩
def prOf (e : Nat × Nat) : List Value := [.int .u64 (e.1 : Int), .int .u64 (e.2 : Int)]
def PairOk (e : Nat × Nat) : Prop := e.1 < 18446744073709551616 ∧ e.2 < 18446744073709551616
theorem wrCells_pr : ∀ l : List (Nat × Nat), l.flatMap prOf = wrCells l
  | [] => rfl
  | e :: l => by
    have := wrCells_pr l
    simp only [List.flatMap_cons, this]
    rfl
/-- A call as it comes in. -/
structure OpV where
  op : Nat
  word : Nat
  block : Nat
  v : Nat
def OpV.cells (o : OpV) : List Value := [.int .u8 (o.op : Int), .int .u8 (o.word : Int), .int .u8 (o.block : Int), .int .u64 (o.v : Int)]
def OpV.Ok (o : OpV) : Prop := o.op < 256 ∧ o.word < 256 ∧ o.block < 256 ∧ o.v < 18446744073709551616
def opCells (l : List OpV) : List Value := l.flatMap OpV.cells
section
variable {H : Type} {enc : TypeId × Value → H} {w : World} {base : Nat} {sp : Nat → Bool} {held : Bool} {fuel : Nat} {x : DataW H × List MemPlace}
theorem cellsPr : Tryz.prog.cellsOf 47 = 2 := by kernel_rfl
theorem cellsU64 : Tryz.prog.cellsOf 35 = 1 := by kernel_rfl
theorem cellsU8 : Tryz.prog.cellsOf 5 = 1 := by kernel_rfl
theorem cellsOp : Tryz.prog.cellsOf 77 = 4 := by kernel_rfl
set_option maxRecDepth 100000 in
theorem open_pair {cs : List Value} (h : DataW.trod enc Tryz.prog w base sp held fuel 47 cs = some x) : ∃ e : Nat × Nat, cs = prOf e ∧ PairOk e := by
  obtain ⟨xs, m, _, _, hlen, hl, he⟩ := DataW.trod_array Tryz.underlying47 h
  have e0 := he 0 (by omega)
  have e1 := he 1 (by omega)
  rw [cellsU64] at e0 e1
  rw [List.getElem?_eq_getElem (show 0 < xs.length by omega)] at e0
  rw [List.getElem?_eq_getElem (show 1 < xs.length by omega)] at e1
  obtain ⟨a, ha, _, wa⟩ := DataW.trod_int Tryz.underlying35 e0
  obtain ⟨b, hb, _, wb⟩ := DataW.trod_int Tryz.underlying35 e1
  obtain ⟨a', rfl, la⟩ := wf_u64 wa
  obtain ⟨b', rfl, lb⟩ := wf_u64 wb
  exact ⟨(a', b'), pair_cells (hlen.trans cellsPr) (one_at (by simpa using ha)) (one_at (by simpa using hb)), la, lb⟩
set_option maxRecDepth 100000 in
theorem open_pairs {v : Value} (h : DataW.trod enc Tryz.prog w base sp held fuel 22 [v] = some x) :
    ∃ (A : Option Addr) (n c : Nat) (l : List (Nat × Nat)), v = .slice A n c ∧ Reads w w.heap.size 2 A n (wrCells l) ∧ n ≤ c ∧ c ≤ maxLen ∧ ∀ e ∈ l, PairOk e := by
  rcases Go.Deep.open_slice Tryz.underlying22 h with ⟨hcs, _⟩ | ⟨a, len, cap, m, n, D, Pl, hcs, hb, hl, hm, hmm, hx, hi⟩
  · obtain rfl : v = .slice none 0 0 := by simpa using hcs
    exact ⟨none, 0, 0, [], rfl, ⟨rfl, fun h => absurd h (by omega)⟩, Nat.le_refl _, Nat.zero_le _, fun _ h => by cases h⟩
  · obtain rfl : v = .slice (some a) len cap := by simpa using hcs
    have hlm : len ≤ m := by rw [hmm]; split <;> omega
    obtain ⟨l, h1, h2, h3, h4⟩ := reads_elems prOf 2 (by omega) (fun _ => rfl) w a PairOk len (fun i hil => by
      obtain ⟨cs', hc, ht'⟩ := hi i (by omega)
      rw [cellsPr] at hc
      obtain ⟨e, rfl, ho⟩ := open_pair ht'
      obtain ⟨_, hcl, hat⟩ := World.cells?_some hc
      exact ⟨e, ho, fun j hj => by rw [← Go.Deep.add_add]; exact hat j hj⟩)
    rw [wrCells_pr] at h3 h4
    refine ⟨some a, len, cap, l, rfl, ⟨h3, fun hpos => ⟨a, rfl, ?_, h4⟩⟩, hl, hm, h2⟩
    have hl9 : 0 < (wrCells l).length := by rw [h3]; omega
    have := World.block_lt_of_cell? _ _ (h4 0 _ (List.getElem?_eq_getElem hl9))
    rw [block_of_add] at this
    exact this
set_option maxRecDepth 100000 in
theorem open_opv {cs : List Value} (h : DataW.trod enc Tryz.prog w base sp held fuel 77 cs = some x) : ∃ o : OpV, cs = o.cells ∧ o.Ok := by
  obtain ⟨xs, n, _, _, hlen, hxl, hf⟩ := DataW.trod_struct Tryz.underlying77 h
  have hx4 : xs.length = 4 := hxl
  have get : ∀ j, j < 4 → ∃ y, xs[j]? = some y := fun j hj => ⟨xs[j], List.getElem?_eq_getElem (by omega)⟩
  obtain ⟨y0, e0⟩ := get 0 (by omega)
  obtain ⟨y1, e1⟩ := get 1 (by omega)
  obtain ⟨y2, e2⟩ := get 2 (by omega)
  obtain ⟨y3, e3⟩ := get 3 (by omega)
  obtain ⟨a0, c0, _, b0⟩ := DataW.trod_int Tryz.underlying5 ((hf 0 _ rfl).trans e0)
  obtain ⟨a1, c1, _, b1⟩ := DataW.trod_int Tryz.underlying5 ((hf 1 _ rfl).trans e1)
  obtain ⟨a2, c2, _, b2⟩ := DataW.trod_int Tryz.underlying5 ((hf 2 _ rfl).trans e2)
  obtain ⟨a3, c3, _, b3⟩ := DataW.trod_int Tryz.underlying35 ((hf 3 _ rfl).trans e3)
  change (cs.drop 0).take (Tryz.prog.cellsOf 5) = _ at c0
  change (cs.drop 1).take (Tryz.prog.cellsOf 5) = _ at c1
  change (cs.drop 2).take (Tryz.prog.cellsOf 5) = _ at c2
  change (cs.drop 3).take (Tryz.prog.cellsOf 35) = _ at c3
  rw [cellsU8] at c0 c1 c2
  rw [cellsU64] at c3
  obtain ⟨k0, rfl, l0⟩ := wf_u8 b0
  obtain ⟨k1, rfl, l1⟩ := wf_u8 b1
  obtain ⟨k2, rfl, l2⟩ := wf_u8 b2
  obtain ⟨k3, rfl, l3⟩ := wf_u64 b3
  exact ⟨⟨k0, k1, k2, k3⟩, four_cells (hlen.trans cellsOp) (one_at c0) (one_at c1) (one_at c2) (one_at c3), l0, l1, l2, l3⟩
end
/-- Calls as they come in. -/
def OpsIs (w : World) (v : Value) (l : List OpV) : Prop := ∃ (A : Option Addr) (n c : Nat), v = .slice A n c ∧ Reads w w.heap.size 4 A n (opCells l) ∧ n ≤ c ∧ c ≤ maxLen ∧ ∀ o ∈ l, o.Ok
/-- A list of pairs as it comes in. -/
def PairsIs (w : World) (v : Value) (l : List (Nat × Nat)) : Prop := ∃ (A : Option Addr) (n c : Nat), v = .slice A n c ∧ Reads w w.heap.size 2 A n (wrCells l) ∧ n ≤ c ∧ c ≤ maxLen ∧ ∀ e ∈ l, PairOk e
section
variable {H : Type} {enc : TypeId × Value → H} {W : World} {b0 base : Nat} {sp : Nat → Bool} {held : Bool} {v : Value} {d : DataW H} {p : List MemPlace} {r : Reach}
set_option maxRecDepth 100000 in
theorem ops_of (hv : Value.okWide Tryz.prog W r b0 56 v) (h : DataW.Trod enc Tryz.prog W base sp held 56 v d p) : ∃ l : List OpV, OpsIs W v l := by
  obtain ⟨fuel, hf⟩ := h
  obtain ⟨a0, n0, k0, rfl⟩ := okWide_slice Tryz.underlying56 hv
  have hcv : (Value.slice a0 n0 k0).cells.toList = [.slice a0 n0 k0] := rfl
  rw [hcv] at hf
  rcases Go.Deep.open_slice Tryz.underlying56 hf with ⟨hcs, _⟩ | ⟨a, len, cap, m, n, D, Pl, hcs, hb, hl, hm, hmm, hx, hi⟩
  · obtain hcs : Value.slice a0 n0 k0 = .slice none 0 0 := by simpa using hcs
    rw [hcs]
    exact ⟨[], none, 0, 0, rfl, ⟨rfl, fun h => absurd h (by omega)⟩, Nat.le_refl _, Nat.zero_le _, fun _ h => by cases h⟩
  · obtain hcs : Value.slice a0 n0 k0 = .slice (some a) len cap := by simpa using hcs
    rw [hcs]
    have hlm : len ≤ m := by rw [hmm]; split <;> omega
    obtain ⟨l, h1, h2, h3, h4⟩ := reads_elems OpV.cells 4 (by omega) (fun _ => rfl) W a OpV.Ok len (fun i hil => by
      obtain ⟨cs', hc, ht'⟩ := hi i (by omega)
      rw [cellsOp] at hc
      obtain ⟨e, rfl, ho⟩ := open_opv ht'
      obtain ⟨_, hcl, hat⟩ := World.cells?_some hc
      exact ⟨e, ho, fun j hj => by rw [← Go.Deep.add_add]; exact hat j hj⟩)
    refine ⟨l, some a, len, cap, rfl, ⟨h3, fun hpos => ⟨a, rfl, ?_, h4⟩⟩, hl, hm, h2⟩
    have hl9 : 0 < (l.flatMap OpV.cells).length := by rw [h3]; omega
    have := World.block_lt_of_cell? _ _ (h4 0 _ (List.getElem?_eq_getElem hl9))
    rw [block_of_add] at this
    exact this
set_option maxRecDepth 100000 in
theorem three_of (hv : Value.okWide Tryz.prog W r b0 24 v) (h : DataW.Trod enc Tryz.prog W base sp held 24 v d p) :
    ∃ l : List (Nat × Nat) × List (Nat × Nat) × List (Nat × Nat), ∃ x y z, v = .agg #[x, y, z] ∧ PairsIs W x l.1 ∧ PairsIs W y l.2.1 ∧ PairsIs W z l.2.2 := by
  obtain ⟨cs, rfl, hcsz⟩ := okWide_struct Tryz.underlying24 hv
  obtain ⟨fuel, hf0⟩ := h
  obtain ⟨xs, n, _, _, hlen, hxl, hf⟩ := DataW.trod_struct Tryz.underlying24 hf0
  have get : ∀ j, j < 3 → ∃ y, xs[j]? = some y := fun j hj => ⟨xs[j]'(by rw [hxl]; exact hj), List.getElem?_eq_getElem (by rw [hxl]; exact hj)⟩
  obtain ⟨l⟩ := cs
  have hl3 : l.length = 3 := by
    have : Tryz.prog.cellsOf 24 = 3 := by kernel_rfl
    rw [this] at hcsz; simpa using hcsz
  obtain ⟨c0, c1, c2, rfl⟩ : ∃ c0 c1 c2, l = [c0, c1, c2] := by
    match l, hl3 with
    | [c0, c1, c2], _ => exact ⟨c0, c1, c2, rfl⟩
  obtain ⟨y0, e0⟩ := get 0 (by omega)
  obtain ⟨y1, e1⟩ := get 1 (by omega)
  obtain ⟨y2, e2⟩ := get 2 (by omega)
  have g0 := (hf 0 _ rfl).trans e0
  have g1 := (hf 1 _ rfl).trans e1
  have g2 := (hf 2 _ rfl).trans e2
  have q : Tryz.prog.cellsOf 22 = 1 := by kernel_rfl
  change DataW.trod _ _ _ _ _ _ _ 22 (([c0, c1, c2].drop 0).take (Tryz.prog.cellsOf 22)) = _ at g0
  change DataW.trod _ _ _ _ _ _ _ 22 (([c0, c1, c2].drop 1).take (Tryz.prog.cellsOf 22)) = _ at g1
  change DataW.trod _ _ _ _ _ _ _ 22 (([c0, c1, c2].drop 2).take (Tryz.prog.cellsOf 22)) = _ at g2
  rw [q] at g0 g1 g2
  obtain ⟨A0, n0, k0, l0, h0⟩ := open_pairs (v := c0) (by simpa using g0)
  obtain ⟨A1, n1, k1, l1, h1⟩ := open_pairs (v := c1) (by simpa using g1)
  obtain ⟨A2, n2, k2, l2, h2⟩ := open_pairs (v := c2) (by simpa using g2)
  exact ⟨(l0, l1, l2), c0, c1, c2, rfl, ⟨A0, n0, k0, h0⟩, ⟨A1, n1, k1, h1⟩, ⟨A2, n2, k2, h2⟩⟩
end
end Go.Proofs.YtklpeghhgoeeiaaGreatDoor
/- tx: an open transaction beside two arrays of the law's own. -/
namespace Go.Proofs.YtklpeghhgoeeiaaGreatDoor
open Go.RowKit Go.Maps Go.Sort Go.Shelf
abbrev z32 : Array Value := #[.int .u64 0, .int .u64 0, .int .u64 0, .int .u64 0, .int .u64 0, .int .u64 0, .int .u64 0, .int .u64 0, .int .u64 0, .int .u64 0, .int .u64 0, .int .u64 0, .int .u64 0, .int .u64 0, .int .u64 0, .int .u64 0, .int .u64 0, .int .u64 0, .int .u64 0, .int .u64 0, .int .u64 0, .int .u64 0, .int .u64 0, .int .u64 0, .int .u64 0, .int .u64 0, .int .u64 0, .int .u64 0, .int .u64 0, .int .u64 0, .int .u64 0, .int .u64 0]
theorem Arr.new (w : World) : Arr (w.alloc (.cells z32 36)) w.heap.size (fun _ => 0) := by
  refine ⟨z32, Blk.new w _ _, rfl, fun i hi => ?_⟩
  have e : z32 = Array.replicate 32 (.int .u64 0) := rfl
  rw [e, Array.getElem?_replicate, if_pos hi]
  rfl
theorem Open.lt {c : CX} {g mode : Nat} {m : Nat → Nat} {s : AT} {B : Nat} {Z : Fp} {w : World} (h : Open c g mode m s B Z w) : ∀ j, Z j → j < w.heap.size := by
  obtain ⟨S, t, D, n, cur, base, T, ws, ml, hi, hcv, hl⟩ := h
  exact hl
theorem Done.lt {c : CX} {g : Nat} {m : Nat → Nat} {B : Nat} {Z : Fp} {w : World} (h : Done c g m B Z w) : ∀ j, Z j → j < w.heap.size := by
  obtain ⟨S, t, cur, T, hi⟩ := h
  exact hi.lt
/-- An open transaction and two arrays. -/
structure LWI (c : CX) (g mo : Nat) (m : Nat → Nat) (s : AT) (B : Nat) (b1 b2 : Nat) (F G : Nat → Nat) (Z : Fp) (w : World) : Prop where
  op : Open c g mo m s B Z w
  n1 : ¬ Z b1
  n2 : ¬ Z b2
  a1 : Arr w b1 F
  a2 : Arr w b2 G
  w1 : c.w0.heap.size ≤ b1
  w2 : c.w0.heap.size ≤ b2
  ne : b1 ≠ b2
def LW (c : CX) (g mo : Nat) (m : Nat → Nat) (s : AT) (B : Nat) (b1 b2 : Nat) (F G : Nat → Nat) (w : World) : Prop := ∃ Z, LWI c g mo m s B b1 b2 F G Z w
section
variable {c : CX} {g mo : Nat} {m : Nat → Nat} {s s' : AT} {B B' b1 b2 : Nat} {F G : Nat → Nat} {Z : Fp} {w w' : World}
theorem LWI.to (h : LWI c g mo m s B b1 b2 F G Z w) (ht : OpenTo c g mo m s' B' Z w w') : LW c g mo m s' B' b1 b2 F G w' := by
  obtain ⟨Z', ho, hc, hg⟩ := ht
  have l1 := h.a1.lt
  have l2 := h.a2.lt
  exact ⟨Z', ho, fun e => (hg _ e).elim h.n1 (fun e => by omega), fun e => (hg _ e).elim h.n2 (fun e => by omega), h.a1.chg hc h.n1, h.a2.chg hc h.n2, h.w1, h.w2, h.ne⟩
theorem LW.below (h : LW c g mo m s B b1 b2 F G w) (hb : Below w.heap.size w w') : LW c g mo m s B b1 b2 F G w' := by
  obtain ⟨Z, hi⟩ := h
  exact hi.to (hi.op.to_below hb)
theorem LW.out (h : LW c g mo m s B b1 b2 F G w) : Below c.w0.heap.size c.w0 w := by
  obtain ⟨Z, hi⟩ := h
  exact hi.op.out
theorem LW.set1 (h : LW c g mo m s B b1 b2 F G w) {i : Nat} (hi : i < 32) (v : Nat) : LW c g mo m s B b1 b2 (upd F i v) G (w.setCell ⟨b1, i, none⟩ (.int .u64 (v : Int))) := by
  obtain ⟨Z, h⟩ := h
  have hc : Chg (fun j => j = b1) w (w.setCell ⟨b1, i, none⟩ (.int .u64 (v : Int))) := (Chg.refl (fun j => j = b1) w).setCell (p := ⟨b1, i, none⟩) (.inl rfl) _
  exact ⟨Z, h.op.chg hc (fun j hj => by rw [hj]; exact ⟨h.n1, h.w1⟩), h.n1, h.n2, h.a1.set hi v, h.a2.chg hc (fun e => h.ne e.symm), h.w1, h.w2, h.ne⟩
theorem LW.set2 (h : LW c g mo m s B b1 b2 F G w) {i : Nat} (hi : i < 32) (v : Nat) : LW c g mo m s B b1 b2 F (upd G i v) (w.setCell ⟨b2, i, none⟩ (.int .u64 (v : Int))) := by
  obtain ⟨Z, h⟩ := h
  have hc : Chg (fun j => j = b2) w (w.setCell ⟨b2, i, none⟩ (.int .u64 (v : Int))) := (Chg.refl (fun j => j = b2) w).setCell (p := ⟨b2, i, none⟩) (.inl rfl) _
  exact ⟨Z, h.op.chg hc (fun j hj => by rw [hj]; exact ⟨h.n2, h.w2⟩), h.n1, h.n2, h.a1.chg hc h.ne, h.a2.set hi v, h.w1, h.w2, h.ne⟩
theorem LW.congr {F' G' : Nat → Nat} (h : LW c g mo m s B b1 b2 F G w) (e1 : ∀ i, i < 32 → F i = F' i) (e2 : ∀ i, i < 32 → G i = G' i) : LW c g mo m s B b1 b2 F' G' w := by
  obtain ⟨Z, h⟩ := h
  exact ⟨Z, { h with a1 := h.a1.congr e1, a2 := h.a2.congr e2 }⟩
theorem LW.c1 (h : LW c g mo m s B b1 b2 F G w) {i : Nat} (hi : i < 32) : w.cell? ⟨b1, i, none⟩ = some (.int .u64 (F i : Int)) ∧ w.frozen? ⟨b1, i, none⟩ = false := by
  obtain ⟨Z, h⟩ := h
  exact ⟨h.a1.cell hi, h.a1.frozen i⟩
theorem LW.c2 (h : LW c g mo m s B b1 b2 F G w) {i : Nat} (hi : i < 32) : w.cell? ⟨b2, i, none⟩ = some (.int .u64 (G i : Int)) ∧ w.frozen? ⟨b2, i, none⟩ = false := by
  obtain ⟨Z, h⟩ := h
  exact ⟨h.a2.cell hi, h.a2.frozen i⟩
/-- The second array becomes a copy of the first. -/
theorem LW.copy (h : LW c g mo m s B b1 b2 F G w) : ∃ cs old, w.heap[b1]? = some (.cells cs 36 (0, 0)) ∧ w.heap[b2]? = some (.cells old 36 (0, 0)) ∧ cs.size = 32 ∧ old.size = 32 ∧ cs.all (·.oneCell') = true ∧ LW c g mo m s B b1 b2 F F (w.setRow b2 cs) := by
  obtain ⟨Z, h⟩ := h
  have h1 := h.a1
  obtain ⟨cs, hB, hs, hc⟩ := h.a1
  obtain ⟨old, hB2, hs2, _⟩ := h.a2
  have hch : Chg (fun j => j = b2) w (w.setRow b2 cs) := ⟨rfl, rfl, rfl, by simp [World.setRow], fun k hk hne => by
    simp only [World.setRow, Array.getElem?_modify]
    rw [if_neg (fun e => hne e.symm)]⟩
  have hB3 : Blk (w.setRow b2 cs) b2 36 cs := by
    show (w.setRow b2 cs).heap[b2]? = _
    have h2 : w.heap[b2]? = some (.cells old 36 (0, 0)) := hB2
    simp only [World.setRow, Array.getElem?_modify, if_pos, h2]
    rfl
  refine ⟨cs, old, hB, hB2, hs, hs2, ?_, Z, h.op.chg hch (fun j hj => by rw [hj]; exact ⟨h.n2, h.w2⟩), h.n1, h.n2, h1.chg hch h.ne, ⟨cs, hB3, hs, hc⟩, h.w1, h.w2, h.ne⟩
  rw [Array.all_eq_true]
  intro i hi
  have h3 := hc i (by omega)
  rw [Array.getElem?_eq_getElem hi] at h3
  injection h3 with h3
  rw [h3]; rfl
theorem ls_store (h : LW c g mo m s B b1 b2 F G w) (hmo : mo = 1 ∨ mo = 2) (o v : Nat) (ho : Good o) (hv : v < 18446744073709551616) (hB : B ≤ 900) :
    Calls Tryz.prog 13 #[.pointer (some ⟨g, 0, none⟩), .int .u64 (o : Int), .int .u64 (v : Int)] w fun e w' => e = .returned (.tuple #[]) ∧ LW c g mo m (s.store o v) (B + 1) b1 b2 F G w' ∧ ∀ b t cs, Blk w b t cs → (∀ Z, Open c g mo m s B Z w → ¬ Z b) → Blk w' b t cs := by
  obtain ⟨Z, h⟩ := h
  refine (open_store h.op hmo o v ho hv hB).mono ?_
  rintro e w' ⟨rfl, ht⟩
  exact ⟨rfl, h.to ht, fun b t cs hb hn => by
    obtain ⟨Z', _, hc, _⟩ := ht
    exact hc.blk hb (hn Z h.op)⟩
theorem ls_load (h : LW c g mo m s B b1 b2 F G w) (hmo : mo = 1 ∨ mo = 2) (o : Nat) (ho : Good o) :
    Calls Tryz.prog 15 #[.pointer (some ⟨g, 0, none⟩), .int .u64 (o : Int)] w fun e w' => e = .returned (.int .u64 (vw s.f m (o / 8) : Int)) ∧ LW c g mo m s B b1 b2 F G w' := by
  obtain ⟨Z, hi⟩ := h
  refine (open_load hi.op hmo o ho).mono ?_
  rintro e w' ⟨rfl, hb⟩
  exact ⟨rfl, LW.below ⟨Z, hi⟩ hb⟩
/-- A transaction that has ended, and two arrays. -/
structure DSI (c : CX) (g : Nat) (m : Nat → Nat) (B : Nat) (b1 b2 : Nat) (F G : Nat → Nat) (w : World) : Prop where
  dn : ∃ Z, Done c g m B Z w
  a1 : Arr w b1 F
  a2 : Arr w b2 G
theorem DSI.below (h : DSI c g m B b1 b2 F G w) (hb : Below w.heap.size w w') : DSI c g m B b1 b2 F G w' := by
  obtain ⟨Z, hd⟩ := h.dn
  exact ⟨⟨Z, hd.below hb⟩, h.a1.chg (Y := Fp.no) (Chg.of_below hb) (fun h => h), h.a2.chg (Y := Fp.no) (Chg.of_below hb) (fun h => h)⟩
theorem ls_commit (h : LW c g mo m s B b1 b2 F G w) (hmo : mo = 1 ∨ mo = 2) (hB : B ≤ 900) (ho : s.outside = false) (hs : s.surplus = false) (ht : Tab c.w0) :
    Calls Tryz.prog 17 #[.pointer (some ⟨g, 0, none⟩)] w fun e w' => e = .returned (.int .i64 0) ∧ DSI c g (vw s.f m) (B + 1) b1 b2 F G w' := by
  obtain ⟨Z, h⟩ := h
  refine (open_commit h.op hmo hB ho hs ht).mono ?_
  rintro e w' ⟨rfl, Z', hd, hc, _⟩
  exact ⟨rfl, ⟨Z', hd⟩, h.a1.chg hc h.n1, h.a2.chg hc h.n2⟩
end
end Go.Proofs.YtklpeghhgoeeiaaGreatDoor
/- tx, for TxModes: what a law's calls do, whatever the mode: a machine, and each call as a step of it. -/
namespace Go.Proofs.YtklpeghhgoeeiaaGreatDoor
open Go.RowKit Go.Maps Go.Sort Go.Shelf
inductive TrSt
  | none_
  | open_ (s : AT)
  | done_
structure TrM where
  st : TrSt
  m : Nat → Nat
  sv : List Nat
def TrM.new : TrM := ⟨.none_, curM 32, []⟩
def TrM.isOpen (x : TrM) : Bool := match x.st with
  | .open_ _ => true
  | _ => false
def TrM.view (x : TrM) (i : Nat) : Nat := match x.st with
  | .none_ => 0
  | .open_ s => vw s.f x.m i
  | .done_ => x.m i
def TrM.writes (x : TrM) : Nat := match x.st with
  | .open_ s => s.k
  | _ => 0
def TrM.begin_ (x : TrM) : TrM × Nat := match x.st with
  | .open_ _ => (x, 7)
  | _ => (⟨.open_ AT.new, x.m, []⟩, 0)
def TrM.store_ (x : TrM) (i v : Nat) : TrM := match x.st with
  | .open_ s => { x with st := .open_ (s.store (8 * i) v) }
  | _ => x
def TrM.saveV (x : TrM) : Nat := match x.st with
  | .open_ s => s.ids + 1
  | _ => 0
def TrM.saveM (x : TrM) : TrM := match x.st with
  | .open_ s => { x with st := .open_ s.save }
  | _ => x
open Classical in
noncomputable def AT.rb (s : AT) (sp : Nat) : AT × Nat := if h : ∃ (k : Nat) (hk : k < s.marks.length), s.marks[k].id = sp then (s.back (Classical.choose h), 0) else (s, 1)
noncomputable def TrM.rb (x : TrM) (sp : Nat) : TrM × Nat := match x.st with
  | .open_ s => ({ x with st := .open_ (s.rb sp).1 }, (s.rb sp).2)
  | _ => (x, 8)
def TrM.commit (x : TrM) : TrM × Nat := match x.st with
  | .open_ s => ({ x with st := .done_, m := vw s.f x.m }, 0)
  | _ => (x, 8)
def TrM.abort (x : TrM) : TrM × Nat := match x.st with
  | .open_ _ => ({ x with st := .done_ }, 0)
  | _ => (x, 8)
/-- A machine in memory; xv: the transaction's pointer. -/
def TrW (c : CX) (mode : Nat) (x : TrM) (B : Nat) (xv : Value) (Z : Fp) (w : World) : Prop := match x.st with
  | .none_ => xv = .pointer none ∧ Idle c x.m B Z w
  | .open_ s => ∃ g, xv = .pointer (some ⟨g, 0, none⟩) ∧ Open c g mode x.m s B Z w ∧ s.Wee ∧ s.ids ≤ B ∧ s.marks.length ≤ B
  | .done_ => ∃ g, xv = .pointer (some ⟨g, 0, none⟩) ∧ Done c g x.m B Z w
def TrTo (c : CX) (mode : Nat) (x : TrM) (B : Nat) (xv : Value) (Z : Fp) (w w' : World) : Prop := ∃ Z', TrW c mode x B xv Z' w' ∧ Chg Z w w' ∧ Grew Z Z' w
section
variable {c : CX} {mode : Nat} {x : TrM} {B : Nat} {xv : Value} {Z : Fp} {w w' : World}
theorem Idle.lt {m : Nat → Nat} (h : Idle c m B Z w) : ∀ j, Z j → j < w.heap.size := by
  obtain ⟨S, last, cur, T, hi⟩ := h
  exact hi.lt
theorem Idle.more {m : Nat → Nat} {B' : Nat} (h : Idle c m B Z w) (hB : B ≤ B') : Idle c m B' Z w := by
  obtain ⟨S, last, cur, T, hi⟩ := h
  exact ⟨S, last, cur, T, { hi with T := by have := hi.T; omega }⟩
theorem TrW.lt (h : TrW c mode x B xv Z w) : ∀ j, Z j → j < w.heap.size := by
  unfold TrW at h
  split at h
  · exact h.2.lt
  · obtain ⟨g, _, ho, _⟩ := h; exact ho.lt
  · obtain ⟨g, _, hd⟩ := h; exact hd.lt
theorem TrW.out (h : TrW c mode x B xv Z w) : Below c.w0.heap.size c.w0 w ∧ LawS c w := by
  unfold TrW at h
  split at h
  · exact ⟨h.2.out, h.2.law⟩
  · obtain ⟨g, _, ho, _⟩ := h; exact ⟨ho.out, ho.law⟩
  · obtain ⟨g, _, hd⟩ := h; exact ⟨hd.idle.out, hd.idle.law⟩
theorem TrW.more {B' : Nat} (h : TrW c mode x B xv Z w) (hB : B ≤ B') : TrW c mode x B' xv Z w := by
  unfold TrW at h ⊢
  split at h
  · exact ⟨h.1, h.2.more hB⟩
  · obtain ⟨g, e, ho, h1, h2, h3⟩ := h; exact ⟨g, e, ho.more hB, h1, by omega, by omega⟩
  · obtain ⟨g, e, hd⟩ := h; exact ⟨g, e, hd.more hB⟩
theorem TrW.chg {Y : Fp} (h : TrW c mode x B xv Z w) (hc : Chg Y w w') (hy : ∀ j, Y j → ¬ Z j ∧ c.w0.heap.size ≤ j) : TrW c mode x B xv Z w' := by
  unfold TrW at h ⊢
  split at h
  · exact ⟨h.1, h.2.chg hc hy⟩
  · obtain ⟨g, e, ho, h1⟩ := h; exact ⟨g, e, ho.chg hc hy, h1⟩
  · obtain ⟨g, e, hd⟩ := h; exact ⟨g, e, hd.chg hc hy⟩
theorem TrW.below (h : TrW c mode x B xv Z w) (hb : Below w.heap.size w w') : TrW c mode x B xv Z w' := h.chg (Chg.of_below (S := Fp.no) hb) (fun _ h => h.elim)
theorem TrW.same (h : TrW c mode x B xv Z w) {B' : Nat} (hB : B ≤ B') : TrTo c mode x B' xv Z w w := ⟨Z, h.more hB, Chg.refl _ _, Grew.refl _ _⟩
theorem TrW.to_below (h : TrW c mode x B xv Z w) {B' : Nat} (hB : B ≤ B') (hb : Below w.heap.size w w') : TrTo c mode x B' xv Z w w' := ⟨Z, (h.below hb).more hB, Chg.of_below hb, Grew.refl _ _⟩
theorem TrW.sv (h : TrW c mode x B xv Z w) (l : List Nat) : TrW c mode { x with sv := l } B xv Z w := h
/-- Where no transaction is open. -/
theorem TrW.idle (h : TrW c mode x B xv Z w) (ho : x.isOpen = false) : Idle c x.m B Z w := by
  unfold TrW at h
  unfold TrM.isOpen at ho
  split at h
  · exact h.2
  · rename_i s hs; rw [hs] at ho; cases ho
  · obtain ⟨g, _, hd⟩ := h; exact hd.idle
end
section
set_option maxRecDepth 100000
theorem load_nil (w : World) (o : Int) : Calls Tryz.prog 15 #[.pointer none, .int .u64 o] w fun e w' => e = .returned (.int .u64 0) ∧ w = w' := by
  go_enter Tryz.func15, Tryz.ntmps15
  go_wp2
  go_ret
  exact ⟨rfl, rfl⟩
theorem save_nil (w : World) : Calls Tryz.prog 14 #[.pointer none] w fun e w' => e = .returned (.int .i64 0) ∧ w = w' := by
  go_enter Tryz.func14, Tryz.ntmps14
  go_wp2
  go_ret
  exact ⟨rfl, rfl⟩
theorem commit_nil (w : World) : Calls Tryz.prog 17 #[.pointer none] w fun e w' => e = .returned (.int .i64 8) ∧ w = w' := by
  go_enter Tryz.func17, Tryz.ntmps17
  go_wp2
  go_ret
  exact ⟨rfl, rfl⟩
theorem abort_nil (w : World) : Calls Tryz.prog 31 #[.pointer none] w fun e w' => e = .returned (.int .i64 8) ∧ w = w' := by
  go_enter Tryz.func31, Tryz.ntmps31
  go_wp2
  go_ret
  exact ⟨rfl, rfl⟩
theorem open_nil (w : World) : Calls Tryz.prog 26 #[.pointer none] w fun e w' => e = .returned (.bool false) ∧ w = w' := by
  go_enter Tryz.func26, Tryz.ntmps26
  go_wp2
  go_ret
  exact ⟨rfl, rfl⟩
end
section
variable {c : CX} {mode : Nat} {x : TrM} {B : Nat} {xv : Value} {Z : Fp} {w w' : World}
theorem tr_begin (h : TrW c mode x B xv Z w) (hmo : mode = 1 ∨ mode = 2) :
    Calls Tryz.prog 12 #[.pointer (some ⟨c.x.m, 0, none⟩), .int .u8 (mode : Int)] w fun e w' => ∃ yv, e = .returned (.tuple #[yv, .int .i64 (x.begin_.2 : Int)]) ∧ ((x.begin_.2 = 0 ∧ TrTo c mode x.begin_.1 (B + 1) yv Z w w') ∨ (x.begin_.2 = 7 ∧ x.begin_.1 = x ∧ w = w')) := by
  by_cases ho : x.isOpen = true
  · unfold TrW at h
    unfold TrM.isOpen at ho
    split at h
    · rename_i hs; rw [hs] at ho; cases ho
    · rename_i s hs
      obtain ⟨g, _, hop, _⟩ := h
      have e : x.begin_ = (x, 7) := by unfold TrM.begin_; rw [hs]
      refine (open_busy hop mode hmo).mono ?_
      rintro _ _ ⟨rfl, rfl⟩
      rw [e]
      exact ⟨_, rfl, .inr ⟨rfl, rfl, rfl⟩⟩
    · rename_i hs; rw [hs] at ho; cases ho
  · have ho' : x.isOpen = false := by simpa using ho
    have e : x.begin_ = (⟨.open_ AT.new, x.m, []⟩, 0) := by
      unfold TrM.begin_
      unfold TrM.isOpen at ho'
      split
      · rename_i s hs; rw [hs] at ho'; cases ho'
      · rfl
    refine (idle_begin (h.idle ho') mode hmo).mono ?_
    rintro _ _ ⟨g, rfl, Z', hop, hc, hg⟩
    rw [e]
    exact ⟨_, rfl, .inl ⟨rfl, Z', ⟨g, rfl, hop.more (by omega), AT.Wee.new, Nat.zero_le _, Nat.zero_le _⟩, hc, hg⟩⟩
theorem tr_store (h : TrW c mode x B xv Z w) (hmo : mode = 1 ∨ mode = 2) {i v : Nat} (hi : i < 32) (hv : v < 18446744073709551616) (hB : B ≤ 800) :
    Calls Tryz.prog 13 #[xv, .int .u64 ((8 * i : Nat) : Int), .int .u64 (v : Int)] w fun e w' => e = .returned (.tuple #[]) ∧ TrTo c mode (x.store_ i v) (B + 1) xv Z w w' := by
  have h0 := h
  unfold TrW at h
  unfold TrM.store_
  split at h
  · rename_i hs
    obtain ⟨rfl, _⟩ := h
    rw [hs]
    refine (store_nil w _ _).mono ?_
    rintro _ _ ⟨rfl, rfl⟩
    exact ⟨rfl, h0.same (by omega)⟩
  · rename_i s hs
    obtain ⟨g, rfl, hop, hw, h1, h2⟩ := h
    rw [hs]
    refine (open_store hop hmo (8 * i) v (good8 hi) hv (by omega)).mono ?_
    rintro _ _ ⟨rfl, Z', hop', hc, hg⟩
    have he := hw.eq (8 * i) v
    exact ⟨rfl, Z', ⟨g, rfl, hop', hw.store hi, by rw [he]; show s.ids ≤ _; omega, by rw [he]; show s.marks.length ≤ _; omega⟩, hc, hg⟩
  · rename_i hs
    obtain ⟨g, rfl, S, t, cur, T, hd⟩ := h
    rw [hs]
    refine (done_store hd.tx _ _).mono ?_
    rintro _ _ ⟨rfl, rfl⟩
    exact ⟨rfl, h0.same (by omega)⟩
theorem tr_save (h : TrW c mode x B xv Z w) (hB : B ≤ 800) :
    Calls Tryz.prog 14 #[xv] w fun e w' => e = .returned (.int .i64 (x.saveV : Int)) ∧ TrTo c mode x.saveM (B + 1) xv Z w w' := by
  have h0 := h
  unfold TrW at h
  unfold TrM.saveV TrM.saveM
  split at h
  · rename_i hs
    obtain ⟨rfl, _⟩ := h
    rw [hs]
    refine (save_nil w).mono ?_
    rintro _ _ ⟨rfl, rfl⟩
    exact ⟨rfl, h0.same (by omega)⟩
  · rename_i s hs
    obtain ⟨g, rfl, hop, hw, h1, h2⟩ := h
    rw [hs]
    refine (open_save hop (by omega) (by omega)).mono ?_
    rintro _ _ ⟨rfl, Z', hop', hc, hg⟩
    exact ⟨rfl, Z', ⟨g, rfl, hop', hw.save, by show s.ids + 1 ≤ B + 1; omega, by show (s.marks ++ [_]).length ≤ B + 1; simp; omega⟩, hc, hg⟩
  · rename_i hs
    obtain ⟨g, rfl, S, t, cur, T, hd⟩ := h
    rw [hs]
    refine (done_save hd.tx).mono ?_
    rintro _ _ ⟨rfl, rfl⟩
    exact ⟨rfl, h0.same (by omega)⟩
theorem tr_rollback (h : TrW c mode x B xv Z w) (hmo : mode = 1 ∨ mode = 2) (hB : B ≤ 800) (sp : Nat) :
    Calls Tryz.prog 16 #[xv, .int .i64 (sp : Int)] w fun e w' => e = .returned (.int .i64 ((x.rb sp).2 : Int)) ∧ TrTo c mode (x.rb sp).1 (B + 1) xv Z w w' := by
  have h0 := h
  unfold TrW at h
  unfold TrM.rb
  split at h
  · rename_i hs
    obtain ⟨rfl, _⟩ := h
    rw [hs]
    refine (rollback_nil w _).mono ?_
    rintro _ _ ⟨rfl, hb⟩
    exact ⟨rfl, h0.to_below (by omega) hb⟩
  · rename_i s hs
    obtain ⟨g, rfl, hop, hw, h1, h2⟩ := h
    rw [hs]
    by_cases hk : ∃ (k : Nat) (hk : k < s.marks.length), s.marks[k].id = sp
    · have hrb : s.rb sp = (s.back (Classical.choose hk), 0) := by unfold AT.rb; rw [dif_pos hk]
      have hex : ∃ a ∈ s.marks, a.id = sp := by obtain ⟨k, hk1, hk2⟩ := hk; exact ⟨_, List.getElem_mem hk1, hk2⟩
      refine (open_rollback hop hmo (by omega) hw.mk_le sp hex (by omega)).mono ?_
      rintro _ _ ⟨rfl, k, hk1, hk2, Z', hop', hc, hg⟩
      obtain ⟨hc1, hc2⟩ := Classical.choose_spec hk
      have hkk : k = Classical.choose hk := AT.one hw.ok hk1 hc1 (hk2.trans hc2.symm)
      dsimp only
      rw [hrb]
      rw [← hkk]
      refine ⟨rfl, Z', ⟨g, rfl, hop', hw.back k, ?_, ?_⟩, hc, hg⟩
      · rw [back_at hk1]; show s.ids ≤ _; omega
      · rw [back_at hk1]; show (s.marks.take (k + 1)).length ≤ _; simp; omega
    · have hrb : s.rb sp = (s, 1) := by unfold AT.rb; rw [dif_neg hk]
      refine (open_rollback_bad hop (by omega) sp (fun a ha e => ?_)).mono ?_
      · obtain ⟨k, hk1, rfl⟩ := List.mem_iff_getElem.1 ha
        exact hk ⟨k, hk1, e⟩
      · rintro _ _ ⟨rfl, hb⟩
        dsimp only
        rw [hrb]
        exact ⟨rfl, Z, ⟨g, rfl, (hop.below hb).more (by omega), hw, by show s.ids ≤ _; omega, by show s.marks.length ≤ _; omega⟩, Chg.of_below hb, Grew.refl _ _⟩
  · rename_i hs
    obtain ⟨g, rfl, S, t, cur, T, hd⟩ := h
    rw [hs]
    refine (done_rollback hd.tx _).mono ?_
    rintro _ _ ⟨rfl, hb⟩
    exact ⟨rfl, h0.to_below (by omega) hb⟩
theorem tr_commit (h : TrW c mode x B xv Z w) (hmo : mode = 1 ∨ mode = 2) (hB : B ≤ 800) (ht : Tab c.w0) :
    Calls Tryz.prog 17 #[xv] w fun e w' => e = .returned (.int .i64 (x.commit.2 : Int)) ∧ TrTo c mode x.commit.1 (B + 1) xv Z w w' := by
  have h0 := h
  unfold TrW at h
  unfold TrM.commit
  split at h
  · rename_i hs
    obtain ⟨rfl, _⟩ := h
    rw [hs]
    refine (commit_nil w).mono ?_
    rintro _ _ ⟨rfl, rfl⟩
    exact ⟨rfl, h0.same (by omega)⟩
  · rename_i s hs
    obtain ⟨g, rfl, hop, hw, h1, h2⟩ := h
    rw [hs]
    refine (open_commit hop hmo (by omega) hw.out hw.sur ht).mono ?_
    rintro _ _ ⟨rfl, Z', hd, hc, hg⟩
    exact ⟨rfl, Z', ⟨g, rfl, hd⟩, hc, hg⟩
  · rename_i hs
    obtain ⟨g, rfl, S, t, cur, T, hd⟩ := h
    rw [hs]
    refine (done_commit hd.tx).mono ?_
    rintro _ _ ⟨rfl, rfl⟩
    exact ⟨rfl, h0.same (by omega)⟩
theorem tr_abort (h : TrW c mode x B xv Z w) (hmo : mode = 1 ∨ mode = 2) (hB : B ≤ 800) :
    Calls Tryz.prog 31 #[xv] w fun e w' => e = .returned (.int .i64 (x.abort.2 : Int)) ∧ TrTo c mode x.abort.1 (B + 1) xv Z w w' := by
  have h0 := h
  unfold TrW at h
  unfold TrM.abort
  split at h
  · rename_i hs
    obtain ⟨rfl, _⟩ := h
    rw [hs]
    refine (abort_nil w).mono ?_
    rintro _ _ ⟨rfl, rfl⟩
    exact ⟨rfl, h0.same (by omega)⟩
  · rename_i s hs
    obtain ⟨g, rfl, hop, hw, h1, h2⟩ := h
    rw [hs]
    refine (open_abort hop hmo (by omega)).mono ?_
    rintro _ _ ⟨rfl, Z', hd, hc, hg⟩
    exact ⟨rfl, Z', ⟨g, rfl, hd⟩, hc, hg⟩
  · rename_i hs
    obtain ⟨g, rfl, S, t, cur, T, hd⟩ := h
    rw [hs]
    refine (done_abort hd.tx).mono ?_
    rintro _ _ ⟨rfl, rfl⟩
    exact ⟨rfl, h0.same (by omega)⟩
theorem tr_writes (h : TrW c mode x B xv Z w) : Calls Tryz.prog 23 #[xv] w fun e w' => e = .returned (.int .i64 (x.writes : Int)) ∧ w = w' := by
  unfold TrW at h
  unfold TrM.writes
  split at h
  · rename_i hs
    obtain ⟨rfl, _⟩ := h
    rw [hs]
    exact writes_nil w
  · rename_i s hs
    obtain ⟨g, rfl, hop, _⟩ := h
    rw [hs]
    exact open_writes hop
  · rename_i hs
    obtain ⟨g, rfl, S, t, cur, T, hd⟩ := h
    rw [hs]
    exact writes_done hd.tx
theorem tr_writes_le (h : TrW c mode x B xv Z w) : x.writes ≤ 32 := by
  unfold TrW at h
  unfold TrM.writes
  split at h
  · rename_i hs; rw [hs]; exact Nat.zero_le _
  · rename_i s hs
    obtain ⟨g, _, _, hw, _⟩ := h
    rw [hs]; exact hw.le
  · rename_i hs; rw [hs]; exact Nat.zero_le _
theorem tr_load (h : TrW c mode x B xv Z w) (hmo : mode = 1 ∨ mode = 2) {i : Nat} (hi : i < 32) : Calls Tryz.prog 15 #[xv, .int .u64 ((8 * i : Nat) : Int)] w fun e w' => e = .returned (.int .u64 (x.view i : Int)) ∧ Below w.heap.size w w' := by
  have e8 : 8 * i / 8 = i := by omega
  unfold TrW at h
  unfold TrM.view
  split at h
  · obtain ⟨rfl, _⟩ := h
    exact (load_nil w _).mono (fun _ _ ⟨h1, h2⟩ => ⟨h1, h2 ▸ Below.refl _ _⟩)
  · obtain ⟨g, rfl, hop, _⟩ := h
    have := open_load hop hmo (8 * i) (good8 hi)
    rw [e8] at this
    exact this
  · obtain ⟨g, rfl, hd⟩ := h
    have := done_loadX hd (8 * i) (good8 hi)
    rw [e8] at this
    exact this.mono (fun _ _ ⟨h1, h2⟩ => ⟨h1, h2 ▸ Below.refl _ _⟩)
theorem tr_open (h : TrW c mode x B xv Z w) : Calls Tryz.prog 26 #[xv] w fun e w' => e = .returned (.bool x.isOpen) ∧ w = w' := by
  unfold TrW at h
  unfold TrM.isOpen
  split at h
  · rename_i hs
    obtain ⟨rfl, _⟩ := h
    rw [hs]
    exact open_nil w
  · rename_i s hs
    obtain ⟨g, rfl, hop, _⟩ := h
    rw [hs]
    obtain ⟨S, t, D, n, cur, base, T, ws, ml, hi, _⟩ := hop
    exact open_open hi.tx hi.op
  · rename_i hs
    obtain ⟨g, rfl, hd⟩ := h
    rw [hs]
    exact done_openX hd
end
end Go.Proofs.YtklpeghhgoeeiaaGreatDoor
