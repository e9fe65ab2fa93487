/- The walks and laws that the claim leans on, part 21: each part says ahead of its lines what it holds. -/
import Derived.Test.YtklpeghhgoeeiaaGreatDoorKat
import Derived.Lib.SlKeysI
/- maps.Keys, slices.AppendSeq, Collect, Sorted at int (printed out of the texts at words). -/
namespace Go.Proofs.YtklpeghhgoeeiaaGreatDoor
open Go.RowKit Go.Maps Go.Sort Go.Shelf
abbrev encI (x : Int) : Value := .int .i64 x
theorem encI_inj {x y : Int} (h : encI x = encI y) : x = y := by simpa [encI] using h
theorem keyedI : Keyed Tryz.prog 3 := int_keyed Tryz.underlying3
set_option maxRecDepth 100000 in
set_option maxHeartbeats 4000000 in
theorem keysChg_one {H : Type} (n l Bm b nn : Nat) (D0 : DataW H) {R : Value → Option (DataW H × List MemPlace)} (J : List Int → World → Prop)
    (hY : ∀ pre x W, J pre W → pre.length < Maps.size D0 → YieldAt Fence.wide (n - 1) Tryz.prog l #[encI x] W fun e W' => e = .returned (.bool true) ∧ J (pre ++ [x]) W' ∧ KeepsWalks W W')
    (W : World) (hJ : AbidesFrom W.heap.size J) (hm : W.cell? ⟨Bm, 0, none⟩ = some (.map (some b))) (hown : W.ownsMap Tryz.prog 3 R b nn D0) (h0 : J [] W) (hn : 1 ≤ n) :
    CallsIn Fence.wide n Tryz.prog 193 #[.func (.yield l) #[] #[], .pointer (some ⟨Bm, 0, none⟩)] W fun e W' => (∃ v, e = .returned v) ∧ ∃ ss : List Int, ss.Perm (intKeys D0) ∧ J ss W' := by
  have h10 : Fence.wide.fn 193 := trivial
  have hro : Fence.wide.round = none := rfl
  refine callsIn_of_wp Tryz.func193 rfl h10 ?_ hro
  simp only [Tryz.ntmps193, List.size_toArray, List.length_cons, List.length_nil, Nat.reduceAdd, Nat.reduceSub, Array.replicate_succ, Array.replicate_zero, List.push_toArray, List.append_toArray, List.nil_append, List.cons_append]
  gi_wp2_with (first
    | (gi_at_range; refine wpListIn_range_own _ rfl _ 201 rfl 3 202 keyedI Tryz.underlying201 _ b nn _ rfl hown ?_; intro w0 hrg0 hg0 hs0)
    | gi_in)
  go_frame
  gi_loopw [3] (fun _ wr => ∃ (left : Lit → Bool) (cnt : Nat) (ss : List Int), wr.ranges Tryz.prog 3 R b W.heap.size nn D0 left cnt ∧ ss.length + cnt ≤ Maps.size D0 ∧ CollectedI D0 left ss ∧ J ss wr)
    (fun _ wr => wr.rangeLeft b W.heap.size)
  case atStart =>
    exact ⟨_, _, [], hrg0, by simp, CollectedI.start D0, hJ [] W w0 none h0 hg0 (fun r e => by cases e)⟩
  case round =>
    obtain ⟨left, cnt, ss, hrg, hcs, hC, hJs⟩ := hrel
    gi_wp2_with (first
      | (gi_at_next; refine wpListIn_next_ranges _ rfl _ rfl 3 keyedI R encI id (fun key kl hk => by obtain ⟨x, hx, _⟩ := Maps.keyOf_i64 Tryz.underlying3 hk; exact ⟨x, hx⟩) (fun v _ _ => ⟨v, rfl⟩) b W.heap.size nn _ _ _ rfl hrg ?_ ?_)
      | gi_in)
    · intro hc0 hl0
      gi_wp2
      go_end0
      exact ⟨⟨_, rfl⟩, ss, hC.perm hown keyedI Tryz.underlying3 hl0, hJs⟩
    · intro x c kl yd yp w2 cnt2 hkey hlk hv hat hrg2 hlt hg2 hs2 hen
      obtain ⟨x', ex, rfl, _⟩ := Maps.keyOf_i64 Tryz.underlying3 hkey
      obtain rfl : x = x' := encI_inj ex
      have hJ2 : J ss w2 := hJ ss wr w2 (some W.heap.size) hJs hg2 (fun r e => by cases e; exact ⟨Nat.le_refl _, hrg.iter_walk⟩)
      obtain ⟨fn, tmps, assign, body, hy, hR⟩ := hY ss x w2 hJ2 (by omega)
      clear hs2
      gi_wp2
      refine hR.mono ?_
      rintro e W3 ⟨rfl, hJ3, hk3⟩
      gi_wp2
      have hrg3 := hrg2.of_walks hk3
      go_roundw
      case rel => exact ⟨_, cnt2, ss ++ [x], hrg3, by simp; omega, hC.step hlk hat, hJ3⟩
      case measure => rw [hrg3.left_eq, hrg.left_eq]; exact hlt
theorem keysChg_gives {H : Type} (n Bm b nn : Nat) (D0 : DataW H) {R : Value → Option (DataW H × List MemPlace)} (w : World) (hBm : Bm < w.heap.size)
    (hm : w.cell? ⟨Bm, 0, none⟩ = some (.map (some b))) (hown : w.ownsMap Tryz.prog 3 R b nn D0) (hn : 1 ≤ n) :
    SeqGives Fence.wide n Tryz.prog 193 #[.pointer (some ⟨Bm, 0, none⟩)] encI (fun ss => ss.Perm (intKeys D0)) (Maps.size D0) w := fun l J W hW hJ hY h0 => by
  have hown' : W.ownsMap Tryz.prog 3 R b nn D0 := by
    have hbl := hown.lt
    obtain ⟨es, clock, hb, Ft, hs, hD⟩ := hown
    exact ⟨es, clock, (hW.block b hbl).trans hb, Ft, hs, hD⟩
  exact keysChg_one n l Bm b nn D0 J hY W hJ ((hW.cell (p := ⟨Bm, 0, none⟩) hBm).trans hm) hown' h0 hn
set_option maxHeartbeats 1000000 in
theorem keysChg_any (mb : Option Nat) (w : World) :
    Calls Tryz.prog 141 #[.map mb] w fun e w' => e = .returned (.func (.func 193) #[] #[.pointer (some ⟨w.heap.size, 0, none⟩)]) ∧ w' = w.alloc (.cells #[.map mb] 201) := by
  go_enter Tryz.func141, Tryz.ntmps141
  go_wp2
  go_ret
  exact ⟨rfl, rfl⟩
def apAssignI : Code := (Code.region 2 #[{ dst := some 5, op := Op.assign (Operand.tmp 7), type := 3, pos := "iter.go:51", after := #[], guard := none }] false)
def apBodyI : Code := (Code.block 1 (Code.region 3 #[{ dst := some 8, op := Op.load (37) (Operand.tmp 2), type := 37, pos := "iter.go:52", after := #[], guard := none }, { dst := some 9, op := Op.move (Operand.tmp 5), type := 3, pos := "iter.go:52", after := #[], guard := none }, { dst := some 10, op := Op.buildSlice (37) 1 #[(0, Operand.tmp 9)], type := 37, pos := "iter.go:52", after := #[{ on := 1, ground := Ground.data }], guard := none }, { dst := some 11, op := Op.call { callee := Callee.builtin Builtin.append, args := #[Operand.tmp 8, Operand.tmp 10], argTypes := #[37, 37] }, type := 37, pos := "iter.go:52", after := #[{ on := 0, ground := Ground.data }, { on := 2, ground := Ground.data }], guard := none }, { dst := none, op := Op.store (37) (Operand.tmp 2) (Operand.tmp 11), type := 0, pos := "iter.go:52", after := #[{ on := 3, ground := Ground.data }, { on := 3, ground := Ground.chain }, { on := 0, ground := Ground.phase }, { on := 1, ground := Ground.phase }, { on := 2, ground := Ground.phase }, { on := 3, ground := Ground.phase }], guard := none }] false))
/-- The loop's record: AppendSeq's temporaries as they stood at the entering: 's' boxed in block Bs; sv: the iterator's value. -/
def apRecI (fn : FuncId) (sv : Value) (Bs D : Nat) (st : LoopState) (pend : Option Code) : Loop :=
  { state := st, pending := pend, fn, tmps := #[.slice none 0 0, sv, .pointer (some ⟨Bs, 0, none⟩), undef, .slice none 0 0, undef, sv, undef, undef, undef, undef, undef, undef], params := #[7], assign := apAssignI, body := apBodyI, defers := D }

/-- BETWEEN TWO ROUNDS: the box holds a slice that owns, in a block of the call's own, what has come so far; IT IS nil JUST AS LONG AS NOTHING HAS COME; nothing that lay before the call has turned. -/
structure ApAtI (w0 : World) (fn : FuncId) (sv : Value) (Bs l D : Nat) (ss : List Int) (W : World) : Prop where
  box : ∃ v, W.heap[Bs]? = some (.cells #[v] (37) (0, 0)) ∧ W.ownsRow w0.heap.size (3) 1 v ss.length (ss.map encI) ∧ (v = .slice none 0 0 ↔ ss = [])
  L : W.heap[l]? = some (.loop (apRecI fn sv Bs D .ready none))
  K : W.heap[D]? = some (.deferred (some []))
  below : Below w0.heap.size w0 W

theorem ap_abidesI (w0 : World) (fn : FuncId) (sv : Value) (Bs l D B : Nat) (hB : w0.heap.size ≤ B) : AbidesFrom B (ApAtI w0 fn sv Bs l D) := fun s W W' row h hg hrow => by
  have hrow' : ∀ r, row = some r → ∃ o : Obj, W.heap[r]? = some o ∧ o.isWalk = true := fun r e => (hrow r e).2
  obtain ⟨v, hv, hr, hn⟩ := h.box
  exact ⟨⟨v, (grownBy_keeps hg hrow' hv rfl).trans hv, ownsRow_abides_a hr hg hrow', hn⟩, (grownBy_keeps hg hrow' h.L rfl).trans h.L, (grownBy_keeps hg hrow' h.K rfl).trans h.K,
    h.below.grown hg h.below.size (fun k e => Nat.le_trans hB (hrow k e).1)⟩

set_option maxRecDepth 100000 in
set_option maxHeartbeats 2000000 in
theorem apYieldI (m : Nat) (w0 : World) (fn : FuncId) (hfn : Fence.wide.fn fn) (sv : Value) (Bs l D : Nat) (hBl : Bs ≠ l) (hDl : D ≠ l) (hDB : D ≠ Bs) (h0B : w0.heap.size ≤ Bs) (h0l : w0.heap.size ≤ l)
    (N : Nat) (hN : N ≤ maxLen) (hNb : N * 8 ≤ 140737488355328) (ss : List Int) (x : Int) (W : World) (h : ApAtI w0 fn sv Bs l D ss W) (hlen : ss.length < N) :
    YieldAt Fence.wide m Tryz.prog l #[encI x] W fun e W' => e = .returned (.bool true) ∧ ApAtI w0 fn sv Bs l D (ss ++ [x]) W' ∧ KeepsWalks W W' := by
  have hne : (37 : Nat) ≠ 3 := by decide
  obtain ⟨i0, hi, hz0, hz1, hz2⟩ := info_parts infoInt
  obtain ⟨v, hv, hrow, _⟩ := h.box
  refine ⟨fn, #[.slice none 0 0, sv, .pointer (some ⟨Bs, 0, none⟩), undef, .slice none 0 0, undef, sv, encI x, undef, undef, undef, undef, undef], apAssignI, apBodyI, by simpa [apRecI] using run_yield (P := Tryz.prog) (args := #[encI x]) h.L rfl, roundIn_of_wpIn hfn ?_⟩
  have hl : l < W.heap.size := (Array.getElem?_eq_some_iff.1 h.L).1
  have hbr := run_beginRound (P := Tryz.prog) h.L rfl
  obtain ⟨W2, hW2⟩ : ∃ W2, W.putObj l (.loop { apRecI fn sv Bs D .ready none with state := .busy }) = W2 := ⟨_, rfl⟩
  rw [hW2] at hbr
  have hg2 : W.grownBy W2 (some l) := by rw [← hW2]; exact grownBy_putObj_a _ _ _
  have hk2 : KeepsWalks W W2 := by rw [← hW2]; exact KeepsWalks.putObj _ h.L rfl
  have hv2 : W2.heap[Bs]? = some (.cells #[v] (37) (0, 0)) := by rw [← hW2]; exact (World.putObj_heap_other hBl).trans hv
  have hK2 : W2.heap[D]? = some (.deferred (some [])) := by rw [← hW2]; exact (World.putObj_heap_other hDl).trans h.K
  have hL2 : W2.heap[l]? = some (.loop { apRecI fn sv Bs D .ready none with state := .busy }) := by rw [← hW2]; exact World.putObj_heap_same hl
  have hrow2 : W2.ownsRow w0.heap.size (3) 1 v ss.length (ss.map encI) := hrow.kept hg2 (ownsRow_ne_a hrow h.L (fun cur e => by first | cases e | exact hne (Obj.cells.inj e).2.1))
  have hb2 : Below w0.heap.size w0 W2 := h.below.grown hg2 h.below.size (fun k e => by cases e; exact h0l)
  obtain ⟨hc2, hf2⟩ := cell_of_box_a hv2
  have hBlt : Bs < W2.heap.size := (Array.getElem?_eq_some_iff.1 hv2).1
  have hl2 : l < W2.heap.size := (Array.getElem?_eq_some_iff.1 hL2).1
  have hDlt : D < W2.heap.size := (Array.getElem?_eq_some_iff.1 hK2).1
  have ne_of : ∀ {j : Nat} {o : Obj}, W2.heap[j]? = some o → (∀ cur, o ≠ .cells cur (3) (0, 0)) → some j ≠ v.ownBlock := fun hj hno => by
    rcases ownsRow_ne_a hrow2 hj hno with e | e
    · rw [e]; simp
    · exact fun e' => e e'.symm
  clear hW2
  unfold apAssignI
  gi_wp2_with gi_round_op_a
  unfold apBodyI
  gi_wp2_with (first
    | (gi_at_builtin; refine wpListIn_append_own _ rfl _ _ (37) rfl w0.heap.size (3) i0 (.int .i64 0) 1 8 Tryz.underlying37 hi hz0 hz1 hz2 rfl (by decide) _ _ _ rfl (hrow2.alloc _) ⟨W2.heap.size, 0, none⟩ 1 1 [encI x] rfl rfl (cell_one_new _ _ _) (by simp [Value.oneCell', encI]) (by omega) (by omega) (by have := hb2.size; simp; omega) ?_; intro v' w3 hown' hg3 hnil3
       have hv3 : w3.heap[Bs]? = some (.cells #[v] (37) (0, 0)) := (hg3.block Bs (by simp; omega) (ne_of hv2 (fun cur e => by first | cases e | exact hne (Obj.cells.inj e).2.1))).trans ((Below.heap_alloc _ _ Bs hBlt).trans hv2)
       obtain ⟨hc3, hf3⟩ := cell_of_box_a hv3
       obtain ⟨g', cap', cur', rfl, hbase', hgb', hr1, hr2, hr3, hr4⟩ : ∃ g' cap' cur', v' = .slice (some ⟨g', 0, none⟩) (ss.length + 1) cap' ∧ w0.heap.size ≤ g' ∧ w3.heap[g']? = some (.cells cur' (3) (0, 0)) ∧ ss.length + 1 ≤ cap' ∧ cap' ≤ maxLen ∧ cur'.size = cap' * 1 ∧ cur'.toList.take ((ss.length + 1) * 1) = ss.map encI ++ [encI x] := by
         rcases hown'.2 with ⟨_, h0⟩ | h'
         · exact absurd h0 (by omega)
         · exact h'
       go_frame)
    | gi_round_op_a)
  have hg3' : (W2.alloc (.cells #[encI x] (3))).grownBy w3 v.ownBlock := hg3
  have hL3 : w3.heap[l]? = some (.loop { apRecI fn sv Bs D .ready none with state := .busy }) := (hg3'.block l (by simp; omega) (ne_of hL2 (fun cur e => by first | cases e | exact hne (Obj.cells.inj e).2.1))).trans ((Below.heap_alloc _ _ l hl2).trans hL2)
  have hK3 : w3.heap[D]? = some (.deferred (some [])) := (hg3'.block D (by simp; omega) (ne_of hK2 (fun cur e => by first | cases e | exact hne (Obj.cells.inj e).2.1))).trans ((Below.heap_alloc _ _ D hDlt).trans hK2)
  obtain ⟨w4, hw4⟩ : ∃ w4, w3.setCell ⟨Bs, 0, none⟩ (.slice (some ⟨g', 0, none⟩) (ss.length + 1) cap') = w4 := ⟨_, rfl⟩
  rw [hw4]
  have hg4 : w3.grownBy w4 (some Bs) := by rw [← hw4]; exact grownBy_setCell0_a _ _ _
  have hv4 : w4.heap[Bs]? = some (.cells #[.slice (some ⟨g', 0, none⟩) (ss.length + 1) cap'] (37) (0, 0)) := by rw [← hw4]; exact heap_setCell_box_a _ hv3
  have hL4 : w4.heap[l]? = some (.loop { apRecI fn sv Bs D .ready none with state := .busy }) := (hg4.block l (Array.getElem?_eq_some_iff.1 hL3).1 (fun e => hBl (by cases e; rfl))).trans hL3
  have hK4 : w4.heap[D]? = some (.deferred (some [])) := (hg4.block D (Array.getElem?_eq_some_iff.1 hK3).1 (fun e => hDB (by cases e; rfl))).trans hK3
  have hrow4 := hown'.kept hg4 (ownsRow_ne_a hown' hv3 (fun cur e => by first | cases e | exact hne (Obj.cells.inj e).2.1))
  have hl4 : l < w4.heap.size := (Array.getElem?_eq_some_iff.1 hL4).1
  have hb3 : Below w0.heap.size w0 w3 := (hb2.alloc hb2.size _).grown hg3' (by have := hb2.size; simp; omega) (fun k e => (hrow2.lt k e).1)
  have hb4 : Below w0.heap.size w0 w4 := hb3.grown hg4 hb3.size (fun k e => by cases e; exact h0B)
  have hk4 : KeepsWalks W w4 := ((hk2.trans (KeepsWalks.alloc _ _)).trans (KeepsWalks.of_grownBy hg3' (ownsRow_not_walk_a (hrow2.alloc _)))).trans (by rw [← hw4]; exact KeepsWalks.setCell _ _ _)
  clear hw4
  refine ⟨_, _, run_endRound none hL4, rfl, ⟨⟨_, (World.putObj_heap_other hBl).trans hv4, ?_, by simp⟩, World.putObj_heap_same hl4, (World.putObj_heap_other hDl).trans hK4, hb4.grown (grownBy_putObj_a _ _ _) hb4.size (fun k e => by cases e; exact h0l)⟩, hk4.trans (KeepsWalks.putObj _ hL4 rfl)⟩
  have := hrow4.kept (grownBy_putObj_a w4 l (.loop { { apRecI fn sv Bs D .ready none with state := .busy } with state := if (none : Option Code).isNone then .ready else .done, pending := none })) (ownsRow_ne_a hrow4 hL4 (fun cur e => by first | cases e | exact hne (Obj.cells.inj e).2.1))
  simpa using this


set_option maxRecDepth 100000 in
set_option maxHeartbeats 2000000 in
/-- **slices.AppendSeq(nil, seq), AGAINST WHATEVER ITERATOR VALUE THAT 'SeqGives'**: it hands back a slice that owns, in a block of the call's own, JUST WHAT THE ITERATOR GAVE, IN THAT ORDER; nil JUST WHERE IT GAVE NOTHING (as Go: 'slices.Collect' of nothing is nil); nothing that lay before the call has turned. -/
theorem appendSeq_inI (n : Nat) (hn : 2 ≤ n) (g : Nat) (lb : Array Value) (eg : ∀ args w, (callFunc g args).run Tryz.prog w = .ok (.enter g args) w)
    (S : List Int → Prop) (N : Nat) (hN : N ≤ maxLen) (hNb : N * 8 ≤ 140737488355328) (w : World) (hseq : SeqGives Fence.wide (n - 1) Tryz.prog g lb encI S N w) :
    CallsIn Fence.wide n Tryz.prog (233) #[.slice none 0 0, .func (.func g) #[] lb] w fun e w' => ∃ (v : Value) (ss : List Int), e = .returned v ∧ S ss ∧ w'.ownsRow w.heap.size (3) 1 v ss.length (ss.map encI) ∧ (v = .slice none 0 0 ↔ ss = []) ∧ Below w.heap.size w w' := by
  have h1 : 1 ≤ n := by omega
  have hne : (37 : Nat) ≠ 3 := by decide
  have hro : Fence.wide.round = none := rfl
  refine callsIn_of_wp_marks Tryz.func233 rfl trivial ?_ hro
  simp only [Tryz.ntmps233, List.size_toArray, List.length_cons, List.length_nil, Nat.reduceAdd, Nat.reduceSub, Array.replicate_succ, Array.replicate_zero, List.push_toArray, List.append_toArray, List.nil_append, List.cons_append]
  gi_wp2
  refine wpIn_rangeFunc ?_
  intro fn hfn
  rw [hro]
  obtain ⟨W0, hW0⟩ : ∃ W0, w.alloc (.cells #[.slice none 0 0] (37)) = W0 := ⟨_, rfl⟩
  have hs0 : W0.heap.size = w.heap.size + 1 := by rw [← hW0]; simp
  have hv0 : W0.heap[w.heap.size]? = some (.cells #[.slice none 0 0] (37) (0, 0)) := by rw [← hW0]; exact World.alloc_heap_new w _
  have hb0 : Below w.heap.size w W0 := by rw [← hW0]; exact (Below.refl _ w).alloc (Nat.le_refl _) _
  rw [hW0]
  obtain ⟨W1, hW1⟩ : ∃ W1, (W0.alloc (.deferred (some []))).alloc (.loop (apRecI fn (.func (.func g) #[] lb) w.heap.size W0.heap.size .ready none)) = W1 := ⟨_, rfl⟩
  have hold : ∀ k, k < W0.heap.size → W1.heap[k]? = W0.heap[k]? := fun k hk => by
    rw [← hW1]; exact (Below.heap_alloc _ _ k (by simp; omega)).trans (Below.heap_alloc _ _ k hk)
  have hb1 : Below w.heap.size w W1 := by rw [← hW1]; exact (hb0.alloc hb0.size _).alloc (by have := hb0.size; simp; omega) _
  have hs1 : W1.heap.size = W0.heap.size + 2 := by rw [← hW1]; simp
  have hM : ApAtI w fn (.func (.func g) #[] lb) w.heap.size (W0.heap.size + 1) W0.heap.size [] W1 :=
    ⟨⟨_, (hold w.heap.size (by omega)).trans hv0, ⟨rfl, .inl ⟨rfl, rfl⟩⟩, by simp⟩,
     by rw [← hW1]; have := World.alloc_heap_new (W0.alloc (.deferred (some []))) (.loop (apRecI fn (.func (.func g) #[] lb) w.heap.size W0.heap.size .ready none)); rwa [World.size_alloc] at this,
     by rw [← hW1]; exact (Below.heap_alloc _ _ _ (by simp)).trans (World.alloc_heap_new W0 _), hb1⟩
  refine ⟨W0.heap.size + 1, [{ target := .collected W0.heap.size, args := #[] }], W1, { target := .fn (.func g) lb, args := #[.func (.yield (W0.heap.size + 1)) #[] #[]] }, W1, g,
    #[.func (.yield (W0.heap.size + 1)) #[] #[]] ++ lb, W1, ?_, ?_, ?_, ?_, fun _ => h1, ?_⟩
  · rw [← hW1]; exact run_enterLoop_outer _ _ _ _ _
  · simp [resolve, go_sem]
  · intro f' hf'; simp [Target.leads] at hf'; subst hf'; exact trivial
  · simp [invoke, go_sem, eg]
  · refine (hseq (W0.heap.size + 1) (ApAtI w fn (.func (.func g) #[] lb) w.heap.size (W0.heap.size + 1) W0.heap.size) W1 hb1 (ap_abidesI _ _ _ _ _ _ _ hb1.size)
      (fun pre x W hJ hl => apYieldI (n - 1 - 1) w fn hfn _ w.heap.size (W0.heap.size + 1) W0.heap.size (by omega) (by omega) (by omega) (Nat.le_refl _) (by omega) N hN hNb pre x W hJ hl) hM).mono ?_
    rintro e W2 ⟨⟨v0, rfl⟩, ss, hS, h2⟩
    obtain ⟨v, hv, hrow, hnil⟩ := h2.box
    have hend := run_endLoop (P := Tryz.prog) h2.L (by simp [apRecI])
    obtain ⟨W3, hW3⟩ : ∃ W3, W2.putObj (W0.heap.size + 1) (.loop { apRecI fn (.func (.func g) #[] lb) w.heap.size W0.heap.size .ready none with state := .exhausted }) = W3 := ⟨_, rfl⟩
    rw [hW3] at hend
    have hg3 : W2.grownBy W3 (some (W0.heap.size + 1)) := by rw [← hW3]; exact grownBy_putObj_a _ _ _
    have hv3 : W3.heap[w.heap.size]? = some (.cells #[v] (37) (0, 0)) := by rw [← hW3]; exact (World.putObj_heap_other (by omega)).trans hv
    have hK3 : W3.heap[W0.heap.size]? = some (.deferred (some [])) := by rw [← hW3]; exact (World.putObj_heap_other (by omega)).trans h2.K
    have hrow3 := hrow.kept hg3 (ownsRow_ne_a hrow h2.L (fun cur e => by first | cases e | exact hne (Obj.cells.inj e).2.1))
    have hb3 : Below w.heap.size w W3 := h2.below.grown hg3 h2.below.size (fun k e => by cases e; omega)
    obtain ⟨hc3, hf3⟩ := cell_of_box_a hv3
    clear hW3
    refine ⟨none, W3, hend, ?_⟩
    gi_wp2
    rw [← hs0]
    refine ⟨by simp, .inl ⟨_, _, rfl, run_takeDeferred hK3, ?_⟩⟩
    exact ⟨_, results_tmp rfl _ _ _, v, ss, rfl, hS, hrow3.kept (grownBy_putObj_a _ _ _) (ownsRow_ne_a hrow3 hK3 (fun cur e => by first | cases e | exact hne (Obj.cells.inj e).2.1)), hnil, hb3.grown (grownBy_putObj_a _ _ _) hb3.size (fun k e => by cases e; omega)⟩


set_option maxRecDepth 100000 in
set_option maxHeartbeats 4000000 in
theorem collect_anyI (g : Nat) (lb : Array Value) (eg : ∀ args w, (callFunc g args).run Tryz.prog w = .ok (.enter g args) w)
    (S : List Int → Prop) (N : Nat) (hN : N ≤ 1000000) (w : World) (hseq : SeqGives Fence.wide 9 Tryz.prog g lb encI S N w) :
    Calls Tryz.prog 191 #[.func (.func g) #[] lb] w fun e w' => ∃ (v : Value) (ss : List Int), e = .returned v ∧ S ss ∧ w'.ownsRow w.heap.size 3 1 v ss.length (ss.map encI) ∧ (v = .slice none 0 0 ↔ ss = []) ∧ Below w.heap.size w w' := by
  have HA := Lib.hid ((callsIn_wide (n := 10)).1 (appendSeq_inI 10 (by omega) g lb eg S N (by unfold maxLen; omega) (by omega) w hseq))
  go_enter Tryz.func191, Tryz.ntmps191
  go_wp2_with (go_at_call 233; refine HA.out.mono ?_; rintro e w' ⟨v, ss, rfl, hS, hrow, hnil, hb⟩)
  go_ret
  exact ⟨v, ss, rfl, hS, hrow, hnil, hb⟩
set_option maxRecDepth 100000 in
set_option maxHeartbeats 4000000 in
theorem insert_nilI (w : World) : Calls Tryz.prog 261 #[.slice none 0 0, .int .i64 0, .int .i64 0] w fun e w' => e = .returned (.tuple #[]) ∧ w = w' := by
  go_enter Tryz.func261, Tryz.ntmps261
  go_wp2
  refine wp_loop_rounds 1 ?_
  rw [rounds_succ]
  go_wp2
  go_end0
  exact ⟨rfl, rfl⟩
set_option maxRecDepth 100000 in
set_option maxHeartbeats 4000000 in
theorem pdq_nilI (lim : Int) (w : World) : Calls Tryz.prog 234 #[.slice none 0 0, .int .i64 0, .int .i64 0, .int .i64 lim] w fun e w' => e = .returned (.tuple #[]) ∧ w = w' := by
  go_enter Tryz.func234, Tryz.ntmps234
  go_wp2
  refine wp_loop_rounds 1 ?_
  rw [rounds_succ]
  go_wp2_with fail
  refine (insert_nilI _).mono ?_
  rintro e w1 ⟨rfl, rfl⟩
  go_wp2
  refine bodyPost_ret (results_none rfl _ _ _) rfl ?_
  exact ⟨rfl, rfl⟩
set_option maxRecDepth 100000 in
set_option maxHeartbeats 4000000 in
theorem sort_nilI (w : World) : Calls Tryz.prog 192 #[.slice none 0 0] w fun e w' => e = .returned (.tuple #[]) ∧ w = w' := by
  go_enter Tryz.func192, Tryz.ntmps192
  go_wp2_with (first
    | (go_at_call 234; refine (pdq_nilI _ _).mono ?_; rintro e w1 ⟨rfl, rfl⟩)
    | go_in)
  go_end0
  exact ⟨rfl, rfl⟩
set_option maxRecDepth 100000 in
set_option maxHeartbeats 4000000 in
theorem sorted_nilI (g : Nat) (lb : Array Value) (eg : ∀ args w, (callFunc g args).run Tryz.prog w = .ok (.enter g args) w)
    (N : Nat) (hN : N ≤ 1000000) (w : World) (hseq : SeqGives Fence.wide 9 Tryz.prog g lb encI (fun ss => ss = []) N w) :
    Calls Tryz.prog 140 #[.func (.func g) #[] lb] w fun e w' => e = .returned (.slice none 0 0) ∧ Below w.heap.size w w' := by
  have HC := Lib.hid (collect_anyI g lb eg _ N hN w hseq)
  go_enter Tryz.func140, Tryz.ntmps140
  go_wp2_with (go_at_call 191; refine HC.out.mono ?_; rintro e W ⟨v, ss, rfl, rfl, hrow, hnil, hb⟩; refine stop ?_)
  unfold Stop
  have hv : v = .slice none 0 0 := hnil.2 (by simp)
  subst hv
  have HB := Lib.hid hb
  clear hrow hb hnil HC hseq
  go_wp2_with (go_at_call 192; refine (sort_nilI _).mono ?_; rintro e w1 ⟨rfl, rfl⟩)
  go_ret
  exact ⟨rfl, HB.out⟩
theorem sortI0 (W : World) (b : Nat) (D : DataW Unit) {R : Value → Option (DataW Unit × List MemPlace)} (hD : intKeys D = []) (ho : W.ownsMap Tryz.prog 3 R b 0 D) (hn : Maps.size D ≤ 1000) :
    Calls Tryz.prog 140 #[.func (.func 193) #[] #[.pointer (some ⟨W.heap.size, 0, none⟩)]] (W.alloc (.cells #[.map (some b)] 201)) fun e w' => e = .returned (.slice none 0 0) ∧ Below (W.alloc (.cells #[.map (some b)] 201)).heap.size (W.alloc (.cells #[.map (some b)] 201)) w' := by
  have h := keysChg_gives 9 W.heap.size b 0 D (W.alloc (.cells #[.map (some b)] 201)) (by simp) ((Blk.new W 201 #[.map (some b)]).cell 0) (ho.alloc _) (by omega)
  have e : (fun ss : List Int => ss.Perm (intKeys D)) = fun ss => ss = [] := by
    funext ss
    rw [hD]
    exact propext List.perm_nil
  rw [e] at h
  exact sorted_nilI _ _ (enters_of Tryz.func193 (by kernel_rfl) rfl) (Maps.size D) (by omega) _ h
end Go.Proofs.YtklpeghhgoeeiaaGreatDoor
/- alloc: Actions and Settle of nothing. -/
namespace Go.Proofs.YtklpeghhgoeeiaaGreatDoor
open Go.RowKit Go.Maps Go.Sort Go.Shelf
set_option maxRecDepth 100000 in
set_option maxHeartbeats 1000000 in
theorem distinct_none (w : World) (b : Nat) (hB : Blk w b 43 #[.slice none 0 0, .slice none 0 0]) :
    Calls Tryz.prog 136 #[.slice (some ⟨b, 0, none⟩) 2 2] w fun e w' => e = .returned (.bool true) ∧ Below w.heap.size w w' := by
  have hmm : ∀ W, (Instr.makeMap 223 none).run Tryz.prog W = .ok (.map (some W.heap.size)) (W.alloc (.map #[] 0)) := fun _ => rfl
  have c0 : (w.alloc (.map #[] 0)).cell? ⟨b, 0, none⟩ = some (.slice none 0 0) := (hB.alloc _).cell 0
  have c1 : (w.alloc (.map #[] 0)).cell? ⟨b, 1, none⟩ = some (.slice none 0 0) := (hB.alloc _).cell 1
  have HB := Lib.hid ((Below.refl _ w).alloc (Nat.le_refl _) (.map #[] 0))
  clear hB
  go_enter Tryz.func136, Tryz.ntmps136
  go_wp2
  refine wp_loop_rounds 3 ?_
  rw [rounds_succ]
  go_wp2
  refine wp_loop_rounds 1 ?_
  rw [rounds_succ]
  go_wp2
  rw [rounds_succ]
  go_wp2
  refine wp_loop_rounds 1 ?_
  rw [rounds_succ]
  go_wp2
  rw [rounds_succ]
  go_wp2
  go_ret
  exact ⟨rfl, HB.out⟩
set_option maxRecDepth 100000 in
set_option maxHeartbeats 1000000 in
theorem actions_none {c : CX} {w : World} {S : Fp} {lk : Bool} {last : Option Addr} {cur : Nat → Nat} {T : Nat} (h : Base c w S lk last cur T) :
    Calls Tryz.prog 65 #[.pointer (some ⟨c.x.h, 0, none⟩), .slice none 0 0, .slice none 0 0] w fun e w' => e = .returned (.tuple #[.slice none 0 0, .int .i64 0]) ∧ Below w.heap.size w w' := by
  have hm := methErr (some ⟨c.a.th 0, 0, none⟩)
  have hmm : ∀ W, (Instr.makeMap 201 none).run Tryz.prog W = .ok (.map (some W.heap.size)) (W.alloc (.map #[] 0)) := fun _ => rfl
  have hba : Below w.heap.size w (w.alloc (.cells #[.slice none 0 0, .slice none 0 0] 43)) := (Below.refl _ w).alloc (Nat.le_refl _) _
  have HX := Lib.hid h
  have HDi := Lib.hid (distinct_none _ _ (Blk.new w 43 #[.slice none 0 0, .slice none 0 0]))
  have HB := Lib.hid hba
  clear h hba
  go_enter Tryz.func65, Tryz.ntmps65
  go_wp2_with fail
  refine HDi.out.mono ?_
  rintro e W ⟨rfl, hb⟩
  have HBW := Lib.hid (HB.out.trans (hb.mono HB.out.size))
  have HXW := Lib.hid (HX.out.more_ HBW.out)
  have k0 : W.cell? ⟨c.x.h, 0, none⟩ = some (memV c.a) := HXW.out.sys.h.cell 0
  have HE := Lib.hid (err_dev HXW.out.dev (j := 0) (by omega))
  unfold memV at k0
  clear hb HDi HB
  go_wp2_with fail
  refine HE.out.mono ?_
  rintro e W1 ⟨rfl, rfl⟩
  go_wp2_with fail
  refine wp_loop_rounds 1 ?_
  rw [rounds_succ]
  go_wp2_with fail
  refine wp_loop_rounds 1 ?_
  rw [rounds_succ]
  go_wp2_with fail
  refine wp_loop_rounds 1 ?_
  rw [rounds_succ]
  go_wp2_with fail
  refine wp_loop_rounds 1 ?_
  rw [rounds_succ]
  go_wp2_with fail
  have hb2 : Below W.heap.size W ((W.alloc (.map #[] 0)).alloc (.cells #[.map (some W.heap.size)] 201)) := ((Below.refl _ W).alloc (Nat.le_refl _) _).alloc (by simp) _
  have HM2 : Hid (((W.alloc (.map #[] 0)).alloc (.cells #[.map (some W.heap.size)] 201)).ownsMap Tryz.prog 3 oneR W.heap.size 0 (.map [])) := Lib.hid ((World.ownsMap_made W _ _ _).alloc _)
  have HSo := Lib.hid (sortI0 _ W.heap.size (.map []) rfl HM2.out (by simp [Maps.size]))
  have HB2 := Lib.hid (HBW.out.trans (hb2.mono HBW.out.size))
  clear hb2 HM2 HE
  generalize ((W.alloc (.map #[] 0)).alloc (.cells #[.map (some W.heap.size)] 201)) = W2 at *
  refine (keysChg_any _ _).mono ?_
  rintro e w1 ⟨rfl, rfl⟩
  go_wp2_with fail
  refine HSo.out.mono ?_
  rintro e W3 ⟨rfl, hb3⟩
  have HB3 := Lib.hid (HB2.out.trans ((((Below.refl _ W2).alloc (Nat.le_refl _) _).trans (hb3.mono (by simp))).mono HB2.out.size))
  have HX3 := Lib.hid (HX.out.more_ HB3.out)
  have k0 : W3.cell? ⟨c.x.h, 0, none⟩ = some (memV c.a) := HX3.out.sys.h.cell 0
  have HE := Lib.hid (err_dev HX3.out.dev (j := 0) (by omega))
  unfold memV at k0
  clear hb3 HSo HB2 HBW HXW
  go_wp2_with fail
  refine wp_loop_rounds 1 ?_
  rw [rounds_succ]
  go_wp2_with fail
  refine HE.out.mono ?_
  rintro e W4 ⟨rfl, rfl⟩
  go_wp2
  go_ret2
  exact ⟨rfl, HB3.out⟩
set_option maxRecDepth 100000 in
set_option maxHeartbeats 1000000 in
theorem settle_none (h : Nat) (w : World) : Calls Tryz.prog 69 #[.pointer (some ⟨h, 0, none⟩), .slice none 0 0, .slice none 0 0] w fun e w' => e = .returned (.tuple #[]) ∧ w = w' := by
  go_enter Tryz.func69, Tryz.ntmps69
  go_wp2
  refine wp_loop_rounds 1 ?_
  rw [rounds_succ]
  go_wp2
  go_end0
  exact ⟨rfl, rfl⟩
end Go.Proofs.YtklpeghhgoeeiaaGreatDoor
/- undo: Commit of any log; tx: blocks of none, apply in mode Undo without actions. -/
namespace Go.Proofs.YtklpeghhgoeeiaaGreatDoor
open Go.RowKit Go.Maps Go.Sort Go.Shelf
theorem run_nil {a : DA} {L T : Nat} {w : World} {S : Fp} {cur : Nat → Nat} (h : Dev a L T w S cur 0) (A : Option Addr) (c base : Nat) (ho : w.ownsRow base 178 3 (.slice A 0 c) 0 (insCells [])) (hb : ∀ k, S k → k < base) (hT : T ≤ 1000000000) :
    Calls Tryz.prog 45 #[.slice A 0 c, memV a] w (RetDev a L T w S cur 0 (.int .i64 0)) :=
  run_any h A 0 c [] (Reads.of_own ho) (own_off ho hb) rfl (by omega) (by omega)
theorem nil_own (w : World) (b : Nat) : w.ownsRow b 178 3 (.slice none 0 0) 0 (insCells []) := World.ownsRow_nil _ _ _ _
set_option maxRecDepth 100000 in
set_option maxHeartbeats 1000000 in
theorem planCommit_nil {a : DA} {L T : Nat} {w : World} {S : Fp} {cur : Nat → Nat} {F : Nat} (h : Dev a L T w S cur F) (g s n : Nat) (hB : Blk w g 186 (ulogCells a s n)) (hs : s < L) (hn : 2 ≤ n) (hn2 : n ≤ 4096) (h0 : cur (8 * s) = 0) :
    Calls Tryz.prog 120 #[.pointer (some ⟨g, 0, none⟩)] w fun e w' => e = .returned (.tuple #[.slice none 0 0, .int .i64 0]) ∧ Below w.heap.size w w' := by
  have HP := Lib.hid (loadU_none h g s n hB hs hn hn2 h0)
  clear h hB
  go_enter Tryz.func120, Tryz.ntmps120
  go_wp2_with fail
  refine HP.out.mono ?_
  rintro e w1 ⟨rfl, h1⟩
  have H1 := Lib.hid h1
  clear h1
  go_wp2
  go_ret2
  exact ⟨rfl, H1.out⟩
set_option maxRecDepth 100000 in
set_option maxHeartbeats 1000000 in
theorem commitU_nil {a : DA} {L T : Nat} {w : World} {S : Fp} {cur : Nat → Nat} (h : Dev a L T w S cur 0) (g s n : Nat) (hB : Blk w g 186 (ulogCells a s n)) (hs : s < L) (hn : 2 ≤ n) (hn2 : n ≤ 4096) (h0 : cur (8 * s) = 0) (hT : T ≤ 1000000000) :
    Calls Tryz.prog 147 #[.pointer (some ⟨g, 0, none⟩)] w (RetDev a L T w S cur 0 (.int .i64 0)) := by
  have HP := Lib.hid (planCommit_nil h g s n hB hs hn hn2 h0)
  have HR : Hid (∀ W, Below w.heap.size w W → Calls Tryz.prog 45 #[.slice none 0 0, memV a] W (RetDev a L T W S cur 0 (.int .i64 0))) := Lib.hid (fun W hW => run_nil (h.below hW) none 0 w.heap.size (nil_own W _) h.lt hT)
  have HB := Lib.hid hB
  clear h hB
  go_enter Tryz.func147, Tryz.ntmps147
  go_wp2_with fail
  refine HP.out.mono ?_
  rintro e w1 ⟨rfl, h1⟩
  have H1 := Lib.hid h1
  have k0 : w1.cell? ⟨g, 0, none⟩ = some (memV a) := (HB.out.below h1 HB.out.lt).cell 0
  clear h1
  go_wp2_with fail
  refine (HR.out w1 H1.out).mono ?_
  rintro e w2 ⟨rfl, h2⟩
  have H2 := Lib.hid h2
  clear h2
  go_wp2
  go_ret
  exact RetDev.back H1.out ⟨rfl, H2.out⟩
/-- The words behind a Commit of the log. -/
def cmC (cur : Nat → Nat) (ws : List (Nat × Nat)) : Nat → Nat := if ws = [] then cur else wrS cur [(1920, 0)]
theorem commitU_all {a : DA} {T : Nat} {w : World} {S : Fp} {cur : Nat → Nat} (h : Dev a 152 T w S cur 0) (g : Nat) (hB : Blk w g 186 (ulogCells a 30 26)) (ws : List (Nat × Nat)) (hl : LogU cur 30 ws) (hw : EntO ws) (hT : T + 240 ≤ 1000000000) :
    Calls Tryz.prog 147 #[.pointer (some ⟨g, 0, none⟩)] w (RetDev a 152 (T + 240) w S (cmC cur ws) 0 (.int .i64 0)) := by
  unfold cmC
  by_cases h0 : ws = []
  · rw [if_pos h0]
    subst h0
    refine (commitU_nil h g 30 26 hB (by omega) (by omega) (by omega) hl.count (by omega)).mono ?_
    rintro e w' ⟨he, S', hd, hc, hg⟩
    exact ⟨he, S', hd.more (by omega) hT, hc, hg⟩
  · rw [if_neg h0]
    exact commitU_any h g 30 26 hB (by omega) (by omega) ws hl (hw.ok h0) hT
theorem sortP0 (W : World) (b : Nat) (ho : W.ownsMap Tryz.prog 35 oneR b 0 (.map [])) :
    Calls Tryz.prog 57 #[.func (.func 135) #[] #[.pointer (some ⟨W.heap.size, 0, none⟩)]] (W.alloc (.cells #[.map (some b)] 98)) fun e w' => (∃ A c, e = .returned (.slice A 0 c)) ∧ Below (W.alloc (.cells #[.map (some b)] 98)).heap.size (W.alloc (.cells #[.map (some b)] 98)) w' := by
  refine (sorted_any _ _ (enters_of Tryz.func135 (by kernel_rfl) rfl) (uKeys (.map [] : DataW Unit)) (Maps.size (.map [] : DataW Unit)) (by simp [Maps.size]) _ (keysPtr_gives 9 W.heap.size b 0 _ _ (by simp) ((Blk.new W 98 #[.map (some b)]).cell 0) (ho.alloc _) (by omega))).mono ?_
  rintro e w' ⟨A, m, c, ys, rfl, hp, hm, ho, hb⟩
  have hy : ys = [] := by have := hp.length_eq; simp [uKeys] at this; exact this
  subst hy
  subst hm
  exact ⟨⟨A, c, rfl⟩, hb⟩
theorem sortB0 (W : World) (b : Nat) (ho : W.ownsMap Tryz.prog 35 oneR b 0 (.map [])) :
    Calls Tryz.prog 57 #[.func (.func 188) #[] #[.pointer (some ⟨W.heap.size, 0, none⟩)]] (W.alloc (.cells #[.map (some b)] 97)) fun e w' => (∃ A c, e = .returned (.slice A 0 c)) ∧ Below (W.alloc (.cells #[.map (some b)] 97)).heap.size (W.alloc (.cells #[.map (some b)] 97)) w' := by
  refine (sorted_any _ _ (enters_of Tryz.func188 (by kernel_rfl) rfl) (uKeys (.map [] : DataW Unit)) (Maps.size (.map [] : DataW Unit)) (by simp [Maps.size]) _ (keysBlock_gives 9 W.heap.size b 0 _ _ (by simp) ((Blk.new W 97 #[.map (some b)]).cell 0) (ho.alloc _) (by omega))).mono ?_
  rintro e w' ⟨A, m, c, ys, rfl, hp, hm, ho, hb⟩
  have hy : ys = [] := by have := hp.length_eq; simp [uKeys] at this; exact this
  subst hy
  subst hm
  exact ⟨⟨A, c, rfl⟩, hb⟩
set_option maxRecDepth 100000 in
set_option maxHeartbeats 1000000 in
theorem blocks_none (w : World) (a b c d : Nat) (x y kept : Bool) (ho : w.ownsMap Tryz.prog 35 oneR c 0 (.map [])) :
    Calls Tryz.prog 62 #[stV a b c d x y, .bool kept] w fun e w' => e = .returned (.slice none 0 0) ∧ Below w.heap.size w w' := by
  have hba : Below w.heap.size w (w.alloc (.cells #[.map (some a), .map (some b), .map (some c), .map (some d), .bool x, .bool y] 100)) := (Below.refl _ w).alloc (Nat.le_refl _) _
  have HS := Lib.hid (sortB0 _ c (ho.alloc (.cells #[.map (some a), .map (some b), .map (some c), .map (some d), .bool x, .bool y] 100)))
  have HB := Lib.hid hba
  have HBx := Lib.hid ((Blk.new w 100 #[.map (some a), .map (some b), .map (some c), .map (some d), .bool x, .bool y]))
  clear ho hba
  unfold stV
  go_enter Tryz.func62, Tryz.ntmps62
  go_wp2_with fail
  generalize w.alloc (.cells #[.map (some a), .map (some b), .map (some c), .map (some d), .bool x, .bool y] 100) = W at *
  refine (keysBlock_any _ _).mono ?_
  rintro e w1 ⟨rfl, rfl⟩
  go_wp2_with fail
  refine HS.out.mono ?_
  rintro e w2 ⟨⟨A, c0, rfl⟩, hb2⟩
  have HB2 := Lib.hid (HB.out.trans ((((Below.refl _ W).alloc (Nat.le_refl _) _).trans (hb2.mono (by simp))).mono HB.out.size))
  clear hb2 HS
  go_wp2_with fail
  refine wp_loop_rounds 1 ?_
  rw [rounds_succ]
  go_wp2
  go_ret
  exact ⟨rfl, HB2.out⟩
end Go.Proofs.YtklpeghhgoeeiaaGreatDoor
/- tx: apply in mode Undo, without actions. -/
namespace Go.Proofs.YtklpeghhgoeeiaaGreatDoor
open Go.RowKit Go.Maps Go.Sort Go.Shelf
def RetSt (c : CX) (g : Nat) (w : World) (S : Fp) (t : TX) (D : DataW Unit) (n : Nat) (cur : Nat → Nat) (T : Nat) (v : Value) (e : Ending) (w' : World) : Prop := e = .returned v ∧ StI c g w w' S t D n cur T
/-- All changed words lie in the log. -/
def AllIn (D : DataW Unit) : Prop := ∀ o, has D (kU o) = true → (cAt D o).2.2 = true
set_option maxRecDepth 100000 in
set_option maxHeartbeats 2000000 in
theorem apply_undo {c : CX} {g : Nat} {w : World} {S : Fp} {t : TX} {D : DataW Unit} {n : Nat} {cur : Nat → Nat} {T : Nat} (h : TxS c g w S t D n cur T) (hmode : t.mode = 2) (hpl : AllIn D) {ws : List (Nat × Nat)} (hl : LogU cur 30 ws) (hw : EntO ws) (hT : T ≤ 1000000) (hcv : ∀ i, cur i < 18446744073709551616) :
    Calls Tryz.prog 67 #[.pointer (some ⟨g, 0, none⟩), .slice none 0 0] w (RetSt c g w S t D n (cmC cur ws) (T + 480) (.int .i64 0)) := by
  have c7 : w.cell? ⟨g, 7, none⟩ = some (.int .u8 2) := (h.tx.cell 7).trans (by simp [txCells, hmode])
  have c0 : w.cell? ⟨g, 0, none⟩ = some (.map (some t.words)) := h.tx.cell 0
  have HM := Lib.hid h.maps.words
  have HX := Lib.hid h
  have hbase := h.base
  clear h
  go_enter Tryz.func67, Tryz.ntmps67
  go_wp2_with (first
    | (at_range; refine wpList_range_own _ rfl _ 95 rfl 35 107 keyedU Tryz.underlying95 _ t.words n D rfl HM.out ?_; intro w0 hrg0 hg0 hs0; have HR0 := Lib.hid hrg0; have HB0 := Lib.hid ((Below.refl _ w).grown hg0 (Nat.le_refl _) (fun k e => by cases e)); clear hrg0 hg0 hs0)
    | go_in)
  go_frame
  go_loopw [6] (fun _ wr => ∃ (left : Lit → Bool) (cnt : Nat), Hid (wr.ranges Tryz.prog 35 cellR t.words w.heap.size n D left cnt) ∧ Hid (Below w.heap.size w wr)) (fun _ wr => wr.rangeLeft t.words w.heap.size)
  case atStart => exact ⟨_, _, HR0, HB0⟩
  case round =>
    clear HR0 HB0
    obtain ⟨left, cnt, HR, HB⟩ := hrel
    go_wp2_with (first
      | (at_next; refine wpList_next_ranges _ rfl _ rfl 35 keyedU cellR encW id (fun key kl hk => by obtain ⟨x, hx, _⟩ := keyOf_u64 Tryz.underlying35 hk; exact ⟨x, hx⟩) (fun v _ _ => ⟨v, rfl⟩) t.words w.heap.size n _ _ _ rfl HR.out ?_ ?_)
      | go_in)
    · intro _ _
      have HX1 := Lib.hid (HX.out.more_ HB.out)
      have HOf := Lib.hid (offsets_any none 0 0 [] wr ⟨rfl, fun h => absurd h (by omega)⟩ (by omega))
      clear HR HM c7 c0
      go_wp2_with fail
      refine HOf.out.mono ?_
      rintro e W1 ⟨A, m, c1, ys, rfl, rfl, hm, ho, hb⟩
      have hm0 : m = 0 := hm
      subst hm0
      have HX2 := Lib.hid (HX1.out.more_ hb)
      have HB2 := Lib.hid (HB.out.trans (hb.mono HB.out.size))
      have HSv := Lib.hid (txSave HX2.out (saveU_any HX2.out.base.dev c.x.u 30 26 HX2.out.base.sys.u (by omega) (by omega) ws hl (fun e he => by have := (hw.off e he).lt; omega) A 0 c1 [] [] (by simp [fr]) (Reads.of_own ho) (fun q hq => by simp at hq) (by have := hw.few; simp; omega) (by omega) (by simp) (fun i _ => hcv i) (by simp; omega)))
      clear hm ho hb HOf HX1 HB
      go_wp2_with fail
      refine HSv.out.mono ?_
      intro e W2 h2
      obtain ⟨rfl, hi2⟩ := StI.step HX2.out (Chg.of_below (S := S) HB2.out) (Grew.refl _ _) h2
      have HI2 := Lib.hid hi2
      clear h2 hi2 HSv HX2 HB2
      have hsv : svC cur (64 * 30) ws.length [] = cur := by simp [svC]
      rw [hsv] at HI2
      obtain ⟨S2, hx2, hc2, hg2⟩ := HI2.out
      have k6 : W2.cell? ⟨g, 6, none⟩ = some (.pointer (some ⟨c.x.m, 0, none⟩)) := hx2.tx.cell 6
      have k2 : W2.cell? ⟨c.x.m, 2, none⟩ = some (.pointer (some ⟨c.x.u, 0, none⟩)) := hx2.base.sys.m.cell 2
      have HCm := Lib.hid (commitU_all hx2.base.dev c.x.u hx2.base.sys.u ws hl hw (by simp; omega))
      have HX3 := Lib.hid hx2
      have HC3 := Lib.hid hc2
      have HG3 := Lib.hid hg2
      clear hx2 hc2 hg2 HI2 hsv
      go_wp2_with fail
      refine wp_loop_rounds 1 ?_
      rw [rounds_succ]
      go_wp2_with fail
      refine HCm.out.mono ?_
      intro e W3 h3
      obtain ⟨rfl, hi3⟩ := StI.step HX3.out HC3.out HG3.out h3
      have HI3 := Lib.hid hi3
      clear h3 hi3 HCm HX3 HC3 HG3
      go_wp2
      go_ret
      obtain ⟨S', hx, hc, hg⟩ := HI3.out
      exact ⟨rfl, S', hx.moreT (by simp) (by omega), hc, hg⟩
    · intro x c1 kl yd yp w2 cnt2 hkey hlk hv hat hrg2 hlt hg2 hs2 hen
      obtain ⟨x', ex, rfl, _⟩ := keyOf_u64 Tryz.underlying35 hkey
      obtain rfl : x = x' := encW_inj ex
      obtain ⟨a1, b1, p1, rfl, hz⟩ := cellR_inv hv
      have hp1 : p1 = true := by
        have h1 := hpl x (has_true_of_atKey hat)
        have h2 : D.atKey (kU x) (cellD 0 0 false) = cellD a1 b1 p1 := (hat _).trans (congrArg Prod.fst hz)
        unfold cAt at h1
        rw [h2, cDec_mk] at h1
        exact h1
      subst hp1
      have HRg := Lib.hid hrg2
      have HB2 := Lib.hid (HB.out.grown hg2 HB.out.size (fun k e => by cases e; exact Nat.le_refl _))
      have HLt := Lib.hid hlt
      have HRo := Lib.hid HR.out.left_eq
      unfold cellV at hen
      clear hkey hlk hv hat hrg2 hlt hg2 hs2 ex hz
      go_wp2
      go_roundw
      case rel => exact ⟨_, cnt2, Lib.hid (HRg.out.alloc _), Lib.hid (HB2.out.alloc HB2.out.size _)⟩
      case measure => rw [(HRg.out.alloc _).left_eq, HRo.out]; exact HLt.out
end Go.Proofs.YtklpeghhgoeeiaaGreatDoor
