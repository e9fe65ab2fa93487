/- The walks and laws that the claim leans on, part 17: each part says ahead of its lines what it holds. -/
import Derived.Test.YtklpeghhgoeeiaaGreatDoorKap
import Derived.RangeFuncGives
import Derived.Shelf.SlIter.Sorted
import Derived.Sort.MapsRangeIn
import Derived.RangeFuncBound
/- maps.Keys at maps over words: it gives the keys, each once, in some order (after the kit's text for int keys). -/
namespace Go.Proofs.YtklpeghhgoeeiaaGreatDoor
open Go.RowKit Go.Maps Go.Sort Go.Shelf
abbrev encW (x : Nat) : Value := .int .u64 (x : Int)
theorem encW_inj {x y : Nat} (h : encW x = encW y) : x = y := by
  have : (x : Int) = (y : Int) := by simpa [encW] using h
  omega
set_option maxRecDepth 100000 in
set_option maxHeartbeats 4000000 in
theorem keysCell_one {H : Type} (n l Bm b nn : Nat) (D0 : DataW H) {R : Value → Option (DataW H × List MemPlace)} (J : List Nat → World → Prop)
    (hY : ∀ pre x W, J pre W → pre.length < Maps.size D0 → YieldAt Fence.wide (n - 1) Tryz.prog l #[encW x] W fun e W' => e = .returned (.bool true) ∧ J (pre ++ [x]) W' ∧ KeepsWalks W W')
    (W : World) (hJ : AbidesFrom W.heap.size J) (hm : W.cell? ⟨Bm, 0, none⟩ = some (.map (some b))) (hown : W.ownsMap Tryz.prog 35 R b nn D0) (h0 : J [] W) (hn : 1 ≤ n) :
    CallsIn Fence.wide n Tryz.prog 231 #[.func (.yield l) #[] #[], .pointer (some ⟨Bm, 0, none⟩)] W fun e W' => (∃ v, e = .returned v) ∧ ∃ ss : List Nat, ss.Perm (uKeys D0) ∧ J ss W' := by
  have h10 : Fence.wide.fn 231 := trivial
  have hro : Fence.wide.round = none := rfl
  refine callsIn_of_wp Tryz.func231 rfl h10 ?_ hro
  simp only [Tryz.ntmps231, List.size_toArray, List.length_cons, List.length_nil, Nat.reduceAdd, Nat.reduceSub, Array.replicate_succ, Array.replicate_zero, List.push_toArray, List.append_toArray, List.nil_append, List.cons_append]
  gi_wp2_with (first
    | (gi_at_range; refine wpListIn_range_own _ rfl _ 95 rfl 35 107 keyedU Tryz.underlying95 _ b nn _ rfl hown ?_; intro w0 hrg0 hg0 hs0)
    | gi_in)
  go_frame
  gi_loopw [3] (fun _ wr => ∃ (left : Lit → Bool) (cnt : Nat) (ss : List Nat), wr.ranges Tryz.prog 35 R b W.heap.size nn D0 left cnt ∧ ss.length + cnt ≤ Maps.size D0 ∧ CollU D0 left ss ∧ J ss wr)
    (fun _ wr => wr.rangeLeft b W.heap.size)
  case atStart =>
    exact ⟨_, _, [], hrg0, by simp, CollU.start D0, hJ [] W w0 none h0 hg0 (fun r e => by cases e)⟩
  case round =>
    obtain ⟨left, cnt, ss, hrg, hcs, hC, hJs⟩ := hrel
    gi_wp2_with (first
      | (gi_at_next; refine wpListIn_next_ranges _ rfl _ rfl 35 keyedU R encW id (fun key kl hk => by obtain ⟨x, hx, _⟩ := keyOf_u64 Tryz.underlying35 hk; exact ⟨x, hx⟩) (fun v _ _ => ⟨v, rfl⟩) b W.heap.size nn _ _ _ rfl hrg ?_ ?_)
      | gi_in)
    · intro hc0 hl0
      gi_wp2
      go_end0
      exact ⟨⟨_, rfl⟩, ss, hC.perm hown keyedU Tryz.underlying35 hl0, hJs⟩
    · intro x c kl yd yp w2 cnt2 hkey hlk hv hat hrg2 hlt hg2 hs2 hen
      obtain ⟨x', ex, rfl, _⟩ := keyOf_u64 Tryz.underlying35 hkey
      obtain rfl : x = x' := encW_inj ex
      have hJ2 : J ss w2 := hJ ss wr w2 (some W.heap.size) hJs hg2 (fun r e => by cases e; exact ⟨Nat.le_refl _, hrg.iter_walk⟩)
      obtain ⟨fn, tmps, assign, body, hy, hR⟩ := hY ss x w2 hJ2 (by omega)
      clear hs2
      gi_wp2
      refine hR.mono ?_
      rintro e W3 ⟨rfl, hJ3, hk3⟩
      gi_wp2
      have hrg3 := hrg2.of_walks hk3
      go_roundw
      case rel => exact ⟨_, cnt2, ss ++ [x], hrg3, by simp; omega, hC.step hlk hat, hJ3⟩
      case measure => rw [hrg3.left_eq, hrg.left_eq]; exact hlt
theorem keysCell_gives {H : Type} (n Bm b nn : Nat) (D0 : DataW H) {R : Value → Option (DataW H × List MemPlace)} (w : World) (hBm : Bm < w.heap.size)
    (hm : w.cell? ⟨Bm, 0, none⟩ = some (.map (some b))) (hown : w.ownsMap Tryz.prog 35 R b nn D0) (hn : 1 ≤ n) :
    SeqGives Fence.wide n Tryz.prog 231 #[.pointer (some ⟨Bm, 0, none⟩)] encW (fun ss => ss.Perm (uKeys D0)) (Maps.size D0) w := fun l J W hW hJ hY h0 => by
  have hown' : W.ownsMap Tryz.prog 35 R b nn D0 := by
    have hbl := hown.lt
    obtain ⟨es, clock, hb, Ft, hs, hD⟩ := hown
    exact ⟨es, clock, (hW.block b hbl).trans hb, Ft, hs, hD⟩
  exact keysCell_one n l Bm b nn D0 J hY W hJ ((hW.cell (p := ⟨Bm, 0, none⟩) hBm).trans hm) hown' h0 hn
set_option maxHeartbeats 1000000 in
theorem keysCell_any (mb : Option Nat) (w : World) :
    Calls Tryz.prog 186 #[.map mb] w fun e w' => e = .returned (.func (.func 231) #[] #[.pointer (some ⟨w.heap.size, 0, none⟩)]) ∧ w' = w.alloc (.cells #[.map mb] 95) := by
  go_enter Tryz.func186, Tryz.ntmps186
  go_wp2
  go_ret
  exact ⟨rfl, rfl⟩
set_option maxRecDepth 100000 in
set_option maxHeartbeats 4000000 in
theorem keysU_one {H : Type} (n l Bm b nn : Nat) (D0 : DataW H) {R : Value → Option (DataW H × List MemPlace)} (J : List Nat → World → Prop)
    (hY : ∀ pre x W, J pre W → pre.length < Maps.size D0 → YieldAt Fence.wide (n - 1) Tryz.prog l #[encW x] W fun e W' => e = .returned (.bool true) ∧ J (pre ++ [x]) W' ∧ KeepsWalks W W')
    (W : World) (hJ : AbidesFrom W.heap.size J) (hm : W.cell? ⟨Bm, 0, none⟩ = some (.map (some b))) (hown : W.ownsMap Tryz.prog 35 R b nn D0) (h0 : J [] W) (hn : 1 ≤ n) :
    CallsIn Fence.wide n Tryz.prog 128 #[.func (.yield l) #[] #[], .pointer (some ⟨Bm, 0, none⟩)] W fun e W' => (∃ v, e = .returned v) ∧ ∃ ss : List Nat, ss.Perm (uKeys D0) ∧ J ss W' := by
  have h10 : Fence.wide.fn 128 := trivial
  have hro : Fence.wide.round = none := rfl
  refine callsIn_of_wp Tryz.func128 rfl h10 ?_ hro
  simp only [Tryz.ntmps128, List.size_toArray, List.length_cons, List.length_nil, Nat.reduceAdd, Nat.reduceSub, Array.replicate_succ, Array.replicate_zero, List.push_toArray, List.append_toArray, List.nil_append, List.cons_append]
  gi_wp2_with (first
    | (gi_at_range; refine wpListIn_range_own _ rfl _ 96 rfl 35 35 keyedU Tryz.underlying96 _ b nn _ rfl hown ?_; intro w0 hrg0 hg0 hs0)
    | gi_in)
  go_frame
  gi_loopw [3] (fun _ wr => ∃ (left : Lit → Bool) (cnt : Nat) (ss : List Nat), wr.ranges Tryz.prog 35 R b W.heap.size nn D0 left cnt ∧ ss.length + cnt ≤ Maps.size D0 ∧ CollU D0 left ss ∧ J ss wr)
    (fun _ wr => wr.rangeLeft b W.heap.size)
  case atStart =>
    exact ⟨_, _, [], hrg0, by simp, CollU.start D0, hJ [] W w0 none h0 hg0 (fun r e => by cases e)⟩
  case round =>
    obtain ⟨left, cnt, ss, hrg, hcs, hC, hJs⟩ := hrel
    gi_wp2_with (first
      | (gi_at_next; refine wpListIn_next_ranges _ rfl _ rfl 35 keyedU R encW id (fun key kl hk => by obtain ⟨x, hx, _⟩ := keyOf_u64 Tryz.underlying35 hk; exact ⟨x, hx⟩) (fun v _ _ => ⟨v, rfl⟩) b W.heap.size nn _ _ _ rfl hrg ?_ ?_)
      | gi_in)
    · intro hc0 hl0
      gi_wp2
      go_end0
      exact ⟨⟨_, rfl⟩, ss, hC.perm hown keyedU Tryz.underlying35 hl0, hJs⟩
    · intro x c kl yd yp w2 cnt2 hkey hlk hv hat hrg2 hlt hg2 hs2 hen
      obtain ⟨x', ex, rfl, _⟩ := keyOf_u64 Tryz.underlying35 hkey
      obtain rfl : x = x' := encW_inj ex
      have hJ2 : J ss w2 := hJ ss wr w2 (some W.heap.size) hJs hg2 (fun r e => by cases e; exact ⟨Nat.le_refl _, hrg.iter_walk⟩)
      obtain ⟨fn, tmps, assign, body, hy, hR⟩ := hY ss x w2 hJ2 (by omega)
      clear hs2
      gi_wp2
      refine hR.mono ?_
      rintro e W3 ⟨rfl, hJ3, hk3⟩
      gi_wp2
      have hrg3 := hrg2.of_walks hk3
      go_roundw
      case rel => exact ⟨_, cnt2, ss ++ [x], hrg3, by simp; omega, hC.step hlk hat, hJ3⟩
      case measure => rw [hrg3.left_eq, hrg.left_eq]; exact hlt
theorem keysU_gives {H : Type} (n Bm b nn : Nat) (D0 : DataW H) {R : Value → Option (DataW H × List MemPlace)} (w : World) (hBm : Bm < w.heap.size)
    (hm : w.cell? ⟨Bm, 0, none⟩ = some (.map (some b))) (hown : w.ownsMap Tryz.prog 35 R b nn D0) (hn : 1 ≤ n) :
    SeqGives Fence.wide n Tryz.prog 128 #[.pointer (some ⟨Bm, 0, none⟩)] encW (fun ss => ss.Perm (uKeys D0)) (Maps.size D0) w := fun l J W hW hJ hY h0 => by
  have hown' : W.ownsMap Tryz.prog 35 R b nn D0 := by
    have hbl := hown.lt
    obtain ⟨es, clock, hb, Ft, hs, hD⟩ := hown
    exact ⟨es, clock, (hW.block b hbl).trans hb, Ft, hs, hD⟩
  exact keysU_one n l Bm b nn D0 J hY W hJ ((hW.cell (p := ⟨Bm, 0, none⟩) hBm).trans hm) hown' h0 hn
set_option maxHeartbeats 1000000 in
theorem keysU_any (mb : Option Nat) (w : World) :
    Calls Tryz.prog 58 #[.map mb] w fun e w' => e = .returned (.func (.func 128) #[] #[.pointer (some ⟨w.heap.size, 0, none⟩)]) ∧ w' = w.alloc (.cells #[.map mb] 96) := by
  go_enter Tryz.func58, Tryz.ntmps58
  go_wp2
  go_ret
  exact ⟨rfl, rfl⟩
set_option maxRecDepth 100000 in
set_option maxHeartbeats 4000000 in
theorem keysBlock_one {H : Type} (n l Bm b nn : Nat) (D0 : DataW H) {R : Value → Option (DataW H × List MemPlace)} (J : List Nat → World → Prop)
    (hY : ∀ pre x W, J pre W → pre.length < Maps.size D0 → YieldAt Fence.wide (n - 1) Tryz.prog l #[encW x] W fun e W' => e = .returned (.bool true) ∧ J (pre ++ [x]) W' ∧ KeepsWalks W W')
    (W : World) (hJ : AbidesFrom W.heap.size J) (hm : W.cell? ⟨Bm, 0, none⟩ = some (.map (some b))) (hown : W.ownsMap Tryz.prog 35 R b nn D0) (h0 : J [] W) (hn : 1 ≤ n) :
    CallsIn Fence.wide n Tryz.prog 188 #[.func (.yield l) #[] #[], .pointer (some ⟨Bm, 0, none⟩)] W fun e W' => (∃ v, e = .returned v) ∧ ∃ ss : List Nat, ss.Perm (uKeys D0) ∧ J ss W' := by
  have h10 : Fence.wide.fn 188 := trivial
  have hro : Fence.wide.round = none := rfl
  refine callsIn_of_wp Tryz.func188 rfl h10 ?_ hro
  simp only [Tryz.ntmps188, List.size_toArray, List.length_cons, List.length_nil, Nat.reduceAdd, Nat.reduceSub, Array.replicate_succ, Array.replicate_zero, List.push_toArray, List.append_toArray, List.nil_append, List.cons_append]
  gi_wp2_with (first
    | (gi_at_range; refine wpListIn_range_own _ rfl _ 97 rfl 35 124 keyedU Tryz.underlying97 _ b nn _ rfl hown ?_; intro w0 hrg0 hg0 hs0)
    | gi_in)
  go_frame
  gi_loopw [3] (fun _ wr => ∃ (left : Lit → Bool) (cnt : Nat) (ss : List Nat), wr.ranges Tryz.prog 35 R b W.heap.size nn D0 left cnt ∧ ss.length + cnt ≤ Maps.size D0 ∧ CollU D0 left ss ∧ J ss wr)
    (fun _ wr => wr.rangeLeft b W.heap.size)
  case atStart =>
    exact ⟨_, _, [], hrg0, by simp, CollU.start D0, hJ [] W w0 none h0 hg0 (fun r e => by cases e)⟩
  case round =>
    obtain ⟨left, cnt, ss, hrg, hcs, hC, hJs⟩ := hrel
    gi_wp2_with (first
      | (gi_at_next; refine wpListIn_next_ranges _ rfl _ rfl 35 keyedU R encW id (fun key kl hk => by obtain ⟨x, hx, _⟩ := keyOf_u64 Tryz.underlying35 hk; exact ⟨x, hx⟩) (fun v _ _ => ⟨v, rfl⟩) b W.heap.size nn _ _ _ rfl hrg ?_ ?_)
      | gi_in)
    · intro hc0 hl0
      gi_wp2
      go_end0
      exact ⟨⟨_, rfl⟩, ss, hC.perm hown keyedU Tryz.underlying35 hl0, hJs⟩
    · intro x c kl yd yp w2 cnt2 hkey hlk hv hat hrg2 hlt hg2 hs2 hen
      obtain ⟨x', ex, rfl, _⟩ := keyOf_u64 Tryz.underlying35 hkey
      obtain rfl : x = x' := encW_inj ex
      have hJ2 : J ss w2 := hJ ss wr w2 (some W.heap.size) hJs hg2 (fun r e => by cases e; exact ⟨Nat.le_refl _, hrg.iter_walk⟩)
      obtain ⟨fn, tmps, assign, body, hy, hR⟩ := hY ss x w2 hJ2 (by omega)
      clear hs2
      gi_wp2
      refine hR.mono ?_
      rintro e W3 ⟨rfl, hJ3, hk3⟩
      gi_wp2
      have hrg3 := hrg2.of_walks hk3
      go_roundw
      case rel => exact ⟨_, cnt2, ss ++ [x], hrg3, by simp; omega, hC.step hlk hat, hJ3⟩
      case measure => rw [hrg3.left_eq, hrg.left_eq]; exact hlt
theorem keysBlock_gives {H : Type} (n Bm b nn : Nat) (D0 : DataW H) {R : Value → Option (DataW H × List MemPlace)} (w : World) (hBm : Bm < w.heap.size)
    (hm : w.cell? ⟨Bm, 0, none⟩ = some (.map (some b))) (hown : w.ownsMap Tryz.prog 35 R b nn D0) (hn : 1 ≤ n) :
    SeqGives Fence.wide n Tryz.prog 188 #[.pointer (some ⟨Bm, 0, none⟩)] encW (fun ss => ss.Perm (uKeys D0)) (Maps.size D0) w := fun l J W hW hJ hY h0 => by
  have hown' : W.ownsMap Tryz.prog 35 R b nn D0 := by
    have hbl := hown.lt
    obtain ⟨es, clock, hb, Ft, hs, hD⟩ := hown
    exact ⟨es, clock, (hW.block b hbl).trans hb, Ft, hs, hD⟩
  exact keysBlock_one n l Bm b nn D0 J hY W hJ ((hW.cell (p := ⟨Bm, 0, none⟩) hBm).trans hm) hown' h0 hn
set_option maxHeartbeats 1000000 in
theorem keysBlock_any (mb : Option Nat) (w : World) :
    Calls Tryz.prog 134 #[.map mb] w fun e w' => e = .returned (.func (.func 188) #[] #[.pointer (some ⟨w.heap.size, 0, none⟩)]) ∧ w' = w.alloc (.cells #[.map mb] 97) := by
  go_enter Tryz.func134, Tryz.ntmps134
  go_wp2
  go_ret
  exact ⟨rfl, rfl⟩
set_option maxRecDepth 100000 in
set_option maxHeartbeats 4000000 in
theorem keysPtr_one {H : Type} (n l Bm b nn : Nat) (D0 : DataW H) {R : Value → Option (DataW H × List MemPlace)} (J : List Nat → World → Prop)
    (hY : ∀ pre x W, J pre W → pre.length < Maps.size D0 → YieldAt Fence.wide (n - 1) Tryz.prog l #[encW x] W fun e W' => e = .returned (.bool true) ∧ J (pre ++ [x]) W' ∧ KeepsWalks W W')
    (W : World) (hJ : AbidesFrom W.heap.size J) (hm : W.cell? ⟨Bm, 0, none⟩ = some (.map (some b))) (hown : W.ownsMap Tryz.prog 35 R b nn D0) (h0 : J [] W) (hn : 1 ≤ n) :
    CallsIn Fence.wide n Tryz.prog 135 #[.func (.yield l) #[] #[], .pointer (some ⟨Bm, 0, none⟩)] W fun e W' => (∃ v, e = .returned v) ∧ ∃ ss : List Nat, ss.Perm (uKeys D0) ∧ J ss W' := by
  have h10 : Fence.wide.fn 135 := trivial
  have hro : Fence.wide.round = none := rfl
  refine callsIn_of_wp Tryz.func135 rfl h10 ?_ hro
  simp only [Tryz.ntmps135, List.size_toArray, List.length_cons, List.length_nil, Nat.reduceAdd, Nat.reduceSub, Array.replicate_succ, Array.replicate_zero, List.push_toArray, List.append_toArray, List.nil_append, List.cons_append]
  gi_wp2_with (first
    | (gi_at_range; refine wpListIn_range_own _ rfl _ 98 rfl 35 64 keyedU Tryz.underlying98 _ b nn _ rfl hown ?_; intro w0 hrg0 hg0 hs0)
    | gi_in)
  go_frame
  gi_loopw [3] (fun _ wr => ∃ (left : Lit → Bool) (cnt : Nat) (ss : List Nat), wr.ranges Tryz.prog 35 R b W.heap.size nn D0 left cnt ∧ ss.length + cnt ≤ Maps.size D0 ∧ CollU D0 left ss ∧ J ss wr)
    (fun _ wr => wr.rangeLeft b W.heap.size)
  case atStart =>
    exact ⟨_, _, [], hrg0, by simp, CollU.start D0, hJ [] W w0 none h0 hg0 (fun r e => by cases e)⟩
  case round =>
    obtain ⟨left, cnt, ss, hrg, hcs, hC, hJs⟩ := hrel
    gi_wp2_with (first
      | (gi_at_next; refine wpListIn_next_ranges _ rfl _ rfl 35 keyedU R encW id (fun key kl hk => by obtain ⟨x, hx, _⟩ := keyOf_u64 Tryz.underlying35 hk; exact ⟨x, hx⟩) (fun v _ _ => ⟨v, rfl⟩) b W.heap.size nn _ _ _ rfl hrg ?_ ?_)
      | gi_in)
    · intro hc0 hl0
      gi_wp2
      go_end0
      exact ⟨⟨_, rfl⟩, ss, hC.perm hown keyedU Tryz.underlying35 hl0, hJs⟩
    · intro x c kl yd yp w2 cnt2 hkey hlk hv hat hrg2 hlt hg2 hs2 hen
      obtain ⟨x', ex, rfl, _⟩ := keyOf_u64 Tryz.underlying35 hkey
      obtain rfl : x = x' := encW_inj ex
      have hJ2 : J ss w2 := hJ ss wr w2 (some W.heap.size) hJs hg2 (fun r e => by cases e; exact ⟨Nat.le_refl _, hrg.iter_walk⟩)
      obtain ⟨fn, tmps, assign, body, hy, hR⟩ := hY ss x w2 hJ2 (by omega)
      clear hs2
      gi_wp2
      refine hR.mono ?_
      rintro e W3 ⟨rfl, hJ3, hk3⟩
      gi_wp2
      have hrg3 := hrg2.of_walks hk3
      go_roundw
      case rel => exact ⟨_, cnt2, ss ++ [x], hrg3, by simp; omega, hC.step hlk hat, hJ3⟩
      case measure => rw [hrg3.left_eq, hrg.left_eq]; exact hlt
theorem keysPtr_gives {H : Type} (n Bm b nn : Nat) (D0 : DataW H) {R : Value → Option (DataW H × List MemPlace)} (w : World) (hBm : Bm < w.heap.size)
    (hm : w.cell? ⟨Bm, 0, none⟩ = some (.map (some b))) (hown : w.ownsMap Tryz.prog 35 R b nn D0) (hn : 1 ≤ n) :
    SeqGives Fence.wide n Tryz.prog 135 #[.pointer (some ⟨Bm, 0, none⟩)] encW (fun ss => ss.Perm (uKeys D0)) (Maps.size D0) w := fun l J W hW hJ hY h0 => by
  have hown' : W.ownsMap Tryz.prog 35 R b nn D0 := by
    have hbl := hown.lt
    obtain ⟨es, clock, hb, Ft, hs, hD⟩ := hown
    exact ⟨es, clock, (hW.block b hbl).trans hb, Ft, hs, hD⟩
  exact keysPtr_one n l Bm b nn D0 J hY W hJ ((hW.cell (p := ⟨Bm, 0, none⟩) hBm).trans hm) hown' h0 hn
set_option maxHeartbeats 1000000 in
theorem keysPtr_any (mb : Option Nat) (w : World) :
    Calls Tryz.prog 64 #[.map mb] w fun e w' => e = .returned (.func (.func 135) #[] #[.pointer (some ⟨w.heap.size, 0, none⟩)]) ∧ w' = w.alloc (.cells #[.map mb] 98) := by
  go_enter Tryz.func64, Tryz.ntmps64
  go_wp2
  go_ret
  exact ⟨rfl, rfl⟩
end Go.Proofs.YtklpeghhgoeeiaaGreatDoor
/- slices.AppendSeq, Collect, Sorted at words (turned from the kit's text at int). -/
namespace Go.Proofs.YtklpeghhgoeeiaaGreatDoor
open Go.RowKit Go.Maps Go.Sort Go.Shelf
def apAssign : Code := (Code.region 2 #[{ dst := some 5, op := Op.assign (Operand.tmp 7), type := 35, pos := "iter.go:51", after := #[], guard := none }] false)
def apBody : Code := (Code.block 1 (Code.region 3 #[{ dst := some 8, op := Op.load (57) (Operand.tmp 2), type := 57, pos := "iter.go:52", after := #[], guard := none }, { dst := some 9, op := Op.move (Operand.tmp 5), type := 35, pos := "iter.go:52", after := #[], guard := none }, { dst := some 10, op := Op.buildSlice (57) 1 #[(0, Operand.tmp 9)], type := 57, pos := "iter.go:52", after := #[{ on := 1, ground := Ground.data }], guard := none }, { dst := some 11, op := Op.call { callee := Callee.builtin Builtin.append, args := #[Operand.tmp 8, Operand.tmp 10], argTypes := #[57, 57] }, type := 57, pos := "iter.go:52", after := #[{ on := 0, ground := Ground.data }, { on := 2, ground := Ground.data }], guard := none }, { dst := none, op := Op.store (57) (Operand.tmp 2) (Operand.tmp 11), type := 0, pos := "iter.go:52", after := #[{ on := 3, ground := Ground.data }, { on := 3, ground := Ground.chain }, { on := 0, ground := Ground.phase }, { on := 1, ground := Ground.phase }, { on := 2, ground := Ground.phase }, { on := 3, ground := Ground.phase }], guard := none }] false))
/-- The loop's record: AppendSeq's temporaries as they stood at the entering: 's' boxed in block Bs; sv: the iterator's value. -/
def apRec (fn : FuncId) (sv : Value) (Bs D : Nat) (st : LoopState) (pend : Option Code) : Loop :=
  { state := st, pending := pend, fn, tmps := #[.slice none 0 0, sv, .pointer (some ⟨Bs, 0, none⟩), undef, .slice none 0 0, undef, sv, undef, undef, undef, undef, undef, undef], params := #[7], assign := apAssign, body := apBody, defers := D }

/-- BETWEEN TWO ROUNDS: the box holds a slice that owns, in a block of the call's own, what has come so far; IT IS nil JUST AS LONG AS NOTHING HAS COME; nothing that lay before the call has turned. -/
structure ApAt (w0 : World) (fn : FuncId) (sv : Value) (Bs l D : Nat) (ss : List Nat) (W : World) : Prop where
  box : ∃ v, W.heap[Bs]? = some (.cells #[v] (57) (0, 0)) ∧ W.ownsRow w0.heap.size (35) 1 v ss.length (ss.map encW) ∧ (v = .slice none 0 0 ↔ ss = [])
  L : W.heap[l]? = some (.loop (apRec fn sv Bs D .ready none))
  K : W.heap[D]? = some (.deferred (some []))
  below : Below w0.heap.size w0 W

theorem ap_abides (w0 : World) (fn : FuncId) (sv : Value) (Bs l D B : Nat) (hB : w0.heap.size ≤ B) : AbidesFrom B (ApAt w0 fn sv Bs l D) := fun s W W' row h hg hrow => by
  have hrow' : ∀ r, row = some r → ∃ o : Obj, W.heap[r]? = some o ∧ o.isWalk = true := fun r e => (hrow r e).2
  obtain ⟨v, hv, hr, hn⟩ := h.box
  exact ⟨⟨v, (grownBy_keeps hg hrow' hv rfl).trans hv, ownsRow_abides_a hr hg hrow', hn⟩, (grownBy_keeps hg hrow' h.L rfl).trans h.L, (grownBy_keeps hg hrow' h.K rfl).trans h.K,
    h.below.grown hg h.below.size (fun k e => Nat.le_trans hB (hrow k e).1)⟩

set_option maxRecDepth 100000 in
set_option maxHeartbeats 2000000 in
theorem apYield (m : Nat) (w0 : World) (fn : FuncId) (hfn : Fence.wide.fn fn) (sv : Value) (Bs l D : Nat) (hBl : Bs ≠ l) (hDl : D ≠ l) (hDB : D ≠ Bs) (h0B : w0.heap.size ≤ Bs) (h0l : w0.heap.size ≤ l)
    (N : Nat) (hN : N ≤ maxLen) (hNb : N * 8 ≤ 140737488355328) (ss : List Nat) (x : Nat) (W : World) (h : ApAt w0 fn sv Bs l D ss W) (hlen : ss.length < N) :
    YieldAt Fence.wide m Tryz.prog l #[encW x] W fun e W' => e = .returned (.bool true) ∧ ApAt w0 fn sv Bs l D (ss ++ [x]) W' ∧ KeepsWalks W W' := by
  have hne : (57 : Nat) ≠ 35 := by decide
  obtain ⟨i0, hi, hz0, hz1, hz2⟩ := info_parts infoU64
  obtain ⟨v, hv, hrow, _⟩ := h.box
  refine ⟨fn, #[.slice none 0 0, sv, .pointer (some ⟨Bs, 0, none⟩), undef, .slice none 0 0, undef, sv, encW x, undef, undef, undef, undef, undef], apAssign, apBody, by simpa [apRec] using run_yield (P := Tryz.prog) (args := #[encW x]) h.L rfl, roundIn_of_wpIn hfn ?_⟩
  have hl : l < W.heap.size := (Array.getElem?_eq_some_iff.1 h.L).1
  have hbr := run_beginRound (P := Tryz.prog) h.L rfl
  obtain ⟨W2, hW2⟩ : ∃ W2, W.putObj l (.loop { apRec fn sv Bs D .ready none with state := .busy }) = W2 := ⟨_, rfl⟩
  rw [hW2] at hbr
  have hg2 : W.grownBy W2 (some l) := by rw [← hW2]; exact grownBy_putObj_a _ _ _
  have hk2 : KeepsWalks W W2 := by rw [← hW2]; exact KeepsWalks.putObj _ h.L rfl
  have hv2 : W2.heap[Bs]? = some (.cells #[v] (57) (0, 0)) := by rw [← hW2]; exact (World.putObj_heap_other hBl).trans hv
  have hK2 : W2.heap[D]? = some (.deferred (some [])) := by rw [← hW2]; exact (World.putObj_heap_other hDl).trans h.K
  have hL2 : W2.heap[l]? = some (.loop { apRec fn sv Bs D .ready none with state := .busy }) := by rw [← hW2]; exact World.putObj_heap_same hl
  have hrow2 : W2.ownsRow w0.heap.size (35) 1 v ss.length (ss.map encW) := hrow.kept hg2 (ownsRow_ne_a hrow h.L (fun cur e => by first | cases e | exact hne (Obj.cells.inj e).2.1))
  have hb2 : Below w0.heap.size w0 W2 := h.below.grown hg2 h.below.size (fun k e => by cases e; exact h0l)
  obtain ⟨hc2, hf2⟩ := cell_of_box_a hv2
  have hBlt : Bs < W2.heap.size := (Array.getElem?_eq_some_iff.1 hv2).1
  have hl2 : l < W2.heap.size := (Array.getElem?_eq_some_iff.1 hL2).1
  have hDlt : D < W2.heap.size := (Array.getElem?_eq_some_iff.1 hK2).1
  have ne_of : ∀ {j : Nat} {o : Obj}, W2.heap[j]? = some o → (∀ cur, o ≠ .cells cur (35) (0, 0)) → some j ≠ v.ownBlock := fun hj hno => by
    rcases ownsRow_ne_a hrow2 hj hno with e | e
    · rw [e]; simp
    · exact fun e' => e e'.symm
  clear hW2
  unfold apAssign
  gi_wp2_with gi_round_op_a
  unfold apBody
  gi_wp2_with (first
    | (gi_at_builtin; refine wpListIn_append_own _ rfl _ _ (57) rfl w0.heap.size (35) i0 (.int .u64 0) 1 8 Tryz.underlying57 hi hz0 hz1 hz2 rfl (by decide) _ _ _ rfl (hrow2.alloc _) ⟨W2.heap.size, 0, none⟩ 1 1 [encW x] rfl rfl (cell_one_new _ _ _) (by simp [Value.oneCell', encW]) (by omega) (by omega) (by have := hb2.size; simp; omega) ?_; intro v' w3 hown' hg3 hnil3
       have hv3 : w3.heap[Bs]? = some (.cells #[v] (57) (0, 0)) := (hg3.block Bs (by simp; omega) (ne_of hv2 (fun cur e => by first | cases e | exact hne (Obj.cells.inj e).2.1))).trans ((Below.heap_alloc _ _ Bs hBlt).trans hv2)
       obtain ⟨hc3, hf3⟩ := cell_of_box_a hv3
       obtain ⟨g', cap', cur', rfl, hbase', hgb', hr1, hr2, hr3, hr4⟩ : ∃ g' cap' cur', v' = .slice (some ⟨g', 0, none⟩) (ss.length + 1) cap' ∧ w0.heap.size ≤ g' ∧ w3.heap[g']? = some (.cells cur' (35) (0, 0)) ∧ ss.length + 1 ≤ cap' ∧ cap' ≤ maxLen ∧ cur'.size = cap' * 1 ∧ cur'.toList.take ((ss.length + 1) * 1) = ss.map encW ++ [encW x] := by
         rcases hown'.2 with ⟨_, h0⟩ | h'
         · exact absurd h0 (by omega)
         · exact h'
       go_frame)
    | gi_round_op_a)
  have hg3' : (W2.alloc (.cells #[encW x] (35))).grownBy w3 v.ownBlock := hg3
  have hL3 : w3.heap[l]? = some (.loop { apRec fn sv Bs D .ready none with state := .busy }) := (hg3'.block l (by simp; omega) (ne_of hL2 (fun cur e => by first | cases e | exact hne (Obj.cells.inj e).2.1))).trans ((Below.heap_alloc _ _ l hl2).trans hL2)
  have hK3 : w3.heap[D]? = some (.deferred (some [])) := (hg3'.block D (by simp; omega) (ne_of hK2 (fun cur e => by first | cases e | exact hne (Obj.cells.inj e).2.1))).trans ((Below.heap_alloc _ _ D hDlt).trans hK2)
  obtain ⟨w4, hw4⟩ : ∃ w4, w3.setCell ⟨Bs, 0, none⟩ (.slice (some ⟨g', 0, none⟩) (ss.length + 1) cap') = w4 := ⟨_, rfl⟩
  rw [hw4]
  have hg4 : w3.grownBy w4 (some Bs) := by rw [← hw4]; exact grownBy_setCell0_a _ _ _
  have hv4 : w4.heap[Bs]? = some (.cells #[.slice (some ⟨g', 0, none⟩) (ss.length + 1) cap'] (57) (0, 0)) := by rw [← hw4]; exact heap_setCell_box_a _ hv3
  have hL4 : w4.heap[l]? = some (.loop { apRec fn sv Bs D .ready none with state := .busy }) := (hg4.block l (Array.getElem?_eq_some_iff.1 hL3).1 (fun e => hBl (by cases e; rfl))).trans hL3
  have hK4 : w4.heap[D]? = some (.deferred (some [])) := (hg4.block D (Array.getElem?_eq_some_iff.1 hK3).1 (fun e => hDB (by cases e; rfl))).trans hK3
  have hrow4 := hown'.kept hg4 (ownsRow_ne_a hown' hv3 (fun cur e => by first | cases e | exact hne (Obj.cells.inj e).2.1))
  have hl4 : l < w4.heap.size := (Array.getElem?_eq_some_iff.1 hL4).1
  have hb3 : Below w0.heap.size w0 w3 := (hb2.alloc hb2.size _).grown hg3' (by have := hb2.size; simp; omega) (fun k e => (hrow2.lt k e).1)
  have hb4 : Below w0.heap.size w0 w4 := hb3.grown hg4 hb3.size (fun k e => by cases e; exact h0B)
  have hk4 : KeepsWalks W w4 := ((hk2.trans (KeepsWalks.alloc _ _)).trans (KeepsWalks.of_grownBy hg3' (ownsRow_not_walk_a (hrow2.alloc _)))).trans (by rw [← hw4]; exact KeepsWalks.setCell _ _ _)
  clear hw4
  refine ⟨_, _, run_endRound none hL4, rfl, ⟨⟨_, (World.putObj_heap_other hBl).trans hv4, ?_, by simp⟩, World.putObj_heap_same hl4, (World.putObj_heap_other hDl).trans hK4, hb4.grown (grownBy_putObj_a _ _ _) hb4.size (fun k e => by cases e; exact h0l)⟩, hk4.trans (KeepsWalks.putObj _ hL4 rfl)⟩
  have := hrow4.kept (grownBy_putObj_a w4 l (.loop { { apRec fn sv Bs D .ready none with state := .busy } with state := if (none : Option Code).isNone then .ready else .done, pending := none })) (ownsRow_ne_a hrow4 hL4 (fun cur e => by first | cases e | exact hne (Obj.cells.inj e).2.1))
  simpa using this


set_option maxRecDepth 100000 in
set_option maxHeartbeats 2000000 in
/-- **slices.AppendSeq(nil, seq), AGAINST WHATEVER ITERATOR VALUE THAT 'SeqGives'**: it hands back a slice that owns, in a block of the call's own, JUST WHAT THE ITERATOR GAVE, IN THAT ORDER; nil JUST WHERE IT GAVE NOTHING (as Go: 'slices.Collect' of nothing is nil); nothing that lay before the call has turned. -/
theorem appendSeq_in (n : Nat) (hn : 2 ≤ n) (g : Nat) (lb : Array Value) (eg : ∀ args w, (callFunc g args).run Tryz.prog w = .ok (.enter g args) w)
    (S : List Nat → Prop) (N : Nat) (hN : N ≤ maxLen) (hNb : N * 8 ≤ 140737488355328) (w : World) (hseq : SeqGives Fence.wide (n - 1) Tryz.prog g lb encW S N w) :
    CallsIn Fence.wide n Tryz.prog (183) #[.slice none 0 0, .func (.func g) #[] lb] w fun e w' => ∃ (v : Value) (ss : List Nat), e = .returned v ∧ S ss ∧ w'.ownsRow w.heap.size (35) 1 v ss.length (ss.map encW) ∧ (v = .slice none 0 0 ↔ ss = []) ∧ Below w.heap.size w w' := by
  have h1 : 1 ≤ n := by omega
  have hne : (57 : Nat) ≠ 35 := by decide
  have hro : Fence.wide.round = none := rfl
  refine callsIn_of_wp_marks Tryz.func183 rfl trivial ?_ hro
  simp only [Tryz.ntmps183, List.size_toArray, List.length_cons, List.length_nil, Nat.reduceAdd, Nat.reduceSub, Array.replicate_succ, Array.replicate_zero, List.push_toArray, List.append_toArray, List.nil_append, List.cons_append]
  gi_wp2
  refine wpIn_rangeFunc ?_
  intro fn hfn
  rw [hro]
  obtain ⟨W0, hW0⟩ : ∃ W0, w.alloc (.cells #[.slice none 0 0] (57)) = W0 := ⟨_, rfl⟩
  have hs0 : W0.heap.size = w.heap.size + 1 := by rw [← hW0]; simp
  have hv0 : W0.heap[w.heap.size]? = some (.cells #[.slice none 0 0] (57) (0, 0)) := by rw [← hW0]; exact World.alloc_heap_new w _
  have hb0 : Below w.heap.size w W0 := by rw [← hW0]; exact (Below.refl _ w).alloc (Nat.le_refl _) _
  rw [hW0]
  obtain ⟨W1, hW1⟩ : ∃ W1, (W0.alloc (.deferred (some []))).alloc (.loop (apRec fn (.func (.func g) #[] lb) w.heap.size W0.heap.size .ready none)) = W1 := ⟨_, rfl⟩
  have hold : ∀ k, k < W0.heap.size → W1.heap[k]? = W0.heap[k]? := fun k hk => by
    rw [← hW1]; exact (Below.heap_alloc _ _ k (by simp; omega)).trans (Below.heap_alloc _ _ k hk)
  have hb1 : Below w.heap.size w W1 := by rw [← hW1]; exact (hb0.alloc hb0.size _).alloc (by have := hb0.size; simp; omega) _
  have hs1 : W1.heap.size = W0.heap.size + 2 := by rw [← hW1]; simp
  have hM : ApAt w fn (.func (.func g) #[] lb) w.heap.size (W0.heap.size + 1) W0.heap.size [] W1 :=
    ⟨⟨_, (hold w.heap.size (by omega)).trans hv0, ⟨rfl, .inl ⟨rfl, rfl⟩⟩, by simp⟩,
     by rw [← hW1]; have := World.alloc_heap_new (W0.alloc (.deferred (some []))) (.loop (apRec fn (.func (.func g) #[] lb) w.heap.size W0.heap.size .ready none)); rwa [World.size_alloc] at this,
     by rw [← hW1]; exact (Below.heap_alloc _ _ _ (by simp)).trans (World.alloc_heap_new W0 _), hb1⟩
  refine ⟨W0.heap.size + 1, [{ target := .collected W0.heap.size, args := #[] }], W1, { target := .fn (.func g) lb, args := #[.func (.yield (W0.heap.size + 1)) #[] #[]] }, W1, g,
    #[.func (.yield (W0.heap.size + 1)) #[] #[]] ++ lb, W1, ?_, ?_, ?_, ?_, fun _ => h1, ?_⟩
  · rw [← hW1]; exact run_enterLoop_outer _ _ _ _ _
  · simp [resolve, go_sem]
  · intro f' hf'; simp [Target.leads] at hf'; subst hf'; exact trivial
  · simp [invoke, go_sem, eg]
  · refine (hseq (W0.heap.size + 1) (ApAt w fn (.func (.func g) #[] lb) w.heap.size (W0.heap.size + 1) W0.heap.size) W1 hb1 (ap_abides _ _ _ _ _ _ _ hb1.size)
      (fun pre x W hJ hl => apYield (n - 1 - 1) w fn hfn _ w.heap.size (W0.heap.size + 1) W0.heap.size (by omega) (by omega) (by omega) (Nat.le_refl _) (by omega) N hN hNb pre x W hJ hl) hM).mono ?_
    rintro e W2 ⟨⟨v0, rfl⟩, ss, hS, h2⟩
    obtain ⟨v, hv, hrow, hnil⟩ := h2.box
    have hend := run_endLoop (P := Tryz.prog) h2.L (by simp [apRec])
    obtain ⟨W3, hW3⟩ : ∃ W3, W2.putObj (W0.heap.size + 1) (.loop { apRec fn (.func (.func g) #[] lb) w.heap.size W0.heap.size .ready none with state := .exhausted }) = W3 := ⟨_, rfl⟩
    rw [hW3] at hend
    have hg3 : W2.grownBy W3 (some (W0.heap.size + 1)) := by rw [← hW3]; exact grownBy_putObj_a _ _ _
    have hv3 : W3.heap[w.heap.size]? = some (.cells #[v] (57) (0, 0)) := by rw [← hW3]; exact (World.putObj_heap_other (by omega)).trans hv
    have hK3 : W3.heap[W0.heap.size]? = some (.deferred (some [])) := by rw [← hW3]; exact (World.putObj_heap_other (by omega)).trans h2.K
    have hrow3 := hrow.kept hg3 (ownsRow_ne_a hrow h2.L (fun cur e => by first | cases e | exact hne (Obj.cells.inj e).2.1))
    have hb3 : Below w.heap.size w W3 := h2.below.grown hg3 h2.below.size (fun k e => by cases e; omega)
    obtain ⟨hc3, hf3⟩ := cell_of_box_a hv3
    clear hW3
    refine ⟨none, W3, hend, ?_⟩
    gi_wp2
    rw [← hs0]
    refine ⟨by simp, .inl ⟨_, _, rfl, run_takeDeferred hK3, ?_⟩⟩
    exact ⟨_, results_tmp rfl _ _ _, v, ss, rfl, hS, hrow3.kept (grownBy_putObj_a _ _ _) (ownsRow_ne_a hrow3 hK3 (fun cur e => by first | cases e | exact hne (Obj.cells.inj e).2.1)), hnil, hb3.grown (grownBy_putObj_a _ _ _) hb3.size (fun k e => by cases e; omega)⟩


set_option maxRecDepth 100000 in
set_option maxHeartbeats 4000000 in
theorem collect_any (g : Nat) (lb : Array Value) (eg : ∀ args w, (callFunc g args).run Tryz.prog w = .ok (.enter g args) w)
    (S : List Nat → Prop) (N : Nat) (hN : N ≤ 1000000) (w : World) (hseq : SeqGives Fence.wide 9 Tryz.prog g lb encW S N w) :
    Calls Tryz.prog 126 #[.func (.func g) #[] lb] w fun e w' => ∃ (v : Value) (ss : List Nat), e = .returned v ∧ S ss ∧ w'.ownsRow w.heap.size 35 1 v ss.length (ss.map encW) ∧ (v = .slice none 0 0 ↔ ss = []) ∧ Below w.heap.size w w' := by
  have HA := Lib.hid ((callsIn_wide (n := 10)).1 (appendSeq_in 10 (by omega) g lb eg S N (by unfold maxLen; omega) (by omega) w hseq))
  go_enter Tryz.func126, Tryz.ntmps126
  go_wp2_with (go_at_call 183; refine HA.out.mono ?_; rintro e w' ⟨v, ss, rfl, hS, hrow, hnil, hb⟩)
  go_ret
  exact ⟨v, ss, rfl, hS, hrow, hnil, hb⟩
end Go.Proofs.YtklpeghhgoeeiaaGreatDoor
/- slices.Sorted at words, over whatever gives them. -/
namespace Go.Proofs.YtklpeghhgoeeiaaGreatDoor
open Go.RowKit Go.Maps Go.Shelf
theorem encW_cells (xs : List Nat) : xs.map encW = uCells xs := rfl
theorem row_own {w : World} {base g m c : Nat} {cs : Array Value} {ys : List Nat} (hB : Blk w g 35 cs) (hb : base ≤ g) (hm : m ≤ c) (hc : c ≤ maxLen) (hs : cs.size = c) (hr : RowU cs ys) (hl : ys.length = m) : w.ownsRow base 35 1 (.slice (some ⟨g, 0, none⟩) m c) m (uCells ys) := by
  refine ⟨by simp [uCells, hl], .inr ⟨g, c, cs, rfl, hb, hB, hm, hc, by omega, ?_⟩⟩
  apply List.ext_getElem?
  intro i
  by_cases hi : i < m
  · rw [List.getElem?_take_of_lt (by omega), Array.getElem?_toList, hr.2 i (by omega)]
    simp [uCells, hl ▸ hi]
  · rw [List.getElem?_eq_none (by simp; omega), List.getElem?_eq_none (by simp [uCells]; omega)]
set_option maxRecDepth 100000 in
set_option maxHeartbeats 4000000 in
theorem insert_nil (w : World) : Calls Tryz.prog 220 #[.slice none 0 0, .int .i64 0, .int .i64 0] w fun e w' => e = .returned (.tuple #[]) ∧ w = w' := by
  go_enter Tryz.func220, Tryz.ntmps220
  go_wp2
  refine wp_loop_rounds 1 ?_
  rw [rounds_succ]
  go_wp2
  go_end0
  exact ⟨rfl, rfl⟩
set_option maxRecDepth 100000 in
set_option maxHeartbeats 4000000 in
theorem pdq_nil (lim : Int) (w : World) : Calls Tryz.prog 184 #[.slice none 0 0, .int .i64 0, .int .i64 0, .int .i64 lim] w fun e w' => e = .returned (.tuple #[]) ∧ w = w' := by
  go_enter Tryz.func184, Tryz.ntmps184
  go_wp2
  refine wp_loop_rounds 1 ?_
  rw [rounds_succ]
  go_wp2_with fail
  refine (insert_nil _).mono ?_
  rintro e w1 ⟨rfl, rfl⟩
  go_wp2
  refine bodyPost_ret (results_none rfl _ _ _) rfl ?_
  exact ⟨rfl, rfl⟩
set_option maxRecDepth 100000 in
set_option maxHeartbeats 4000000 in
theorem sort_nil (w : World) : Calls Tryz.prog 127 #[.slice none 0 0] w fun e w' => e = .returned (.tuple #[]) ∧ w = w' := by
  go_enter Tryz.func127, Tryz.ntmps127
  go_wp2_with (first
    | (go_at_call 184; refine (pdq_nil _ _).mono ?_; rintro e w1 ⟨rfl, rfl⟩)
    | go_in)
  go_end0
  exact ⟨rfl, rfl⟩
/-- Words of the call's own. -/
def RetU (w : World) (P : List Nat → Prop) (e : Ending) (w' : World) : Prop := ∃ A m c ys, e = .returned (.slice A m c) ∧ P ys ∧ m = ys.length ∧ w'.ownsRow w.heap.size 35 1 (.slice A m c) m (uCells ys) ∧ Below w.heap.size w w'
set_option maxRecDepth 100000 in
set_option maxHeartbeats 4000000 in
theorem sorted_any (g : Nat) (lb : Array Value) (eg : ∀ args w, (callFunc g args).run Tryz.prog w = .ok (.enter g args) w)
    (ks : List Nat) (N : Nat) (hN : N ≤ 1000) (w : World) (hseq : SeqGives Fence.wide 9 Tryz.prog g lb encW (fun ss => ss.Perm ks) N w) :
    Calls Tryz.prog 57 #[.func (.func g) #[] lb] w (RetU w (fun ys => ys.Perm ks)) := by
  have HC := Lib.hid (collect_any g lb eg _ N (by omega) w hseq.bounded)
  go_enter Tryz.func57, Tryz.ntmps57
  go_wp2_with (go_at_call 126; refine HC.out.mono ?_; rintro e W ⟨v, ss, rfl, ⟨hS, hlen⟩, hrow, hnil, hb⟩; refine stop ?_)
  unfold Stop
  rw [encW_cells] at hrow
  rcases hrow.2 with ⟨rfl, hz⟩ | ⟨gb, cap, cur, rfl, hbase, hgb, r1, r2, r3, r4⟩
  · have hss : ss = [] := List.eq_nil_of_length_eq_zero hz
    subst hss
    have HR := Lib.hid hrow
    have HB := Lib.hid hb
    have HP := Lib.hid hS
    clear hrow hb hS hnil HC hseq
    go_wp2_with (go_at_call 127; refine (sort_nil _).mono ?_; rintro e w1 ⟨rfl, rfl⟩)
    go_ret
    exact ⟨none, 0, 0, [], rfl, HP.out, rfl, HR.out, HB.out⟩
  · obtain ⟨cs, hB, hcs, hR, hl⟩ := own_row hrow
    have hso : SortI W W gb ss cap := ⟨cs, ss, hB, hcs, hR, List.Perm.refl _, Chg.refl _ _⟩
    have HS := Lib.hid (sort_small gb ss.length cap cap ss W hso rfl (by omega) r1 (by unfold maxLen at r2; omega))
    have HB := Lib.hid hb
    have HP := Lib.hid hS
    have HF : Hid (w.heap.size ≤ gb ∧ ss.length ≤ cap ∧ cap ≤ maxLen) := Lib.hid ⟨hbase, r1, r2⟩
    clear hrow hb hS hnil HC hseq hB hcs hR hl hso r1 r2 r3 r4 hgb hbase
    go_wp2_with (go_at_call 127; refine HS.out.mono ?_; rintro e w1 ⟨rfl, hs⟩; have HSo := Lib.hid hs; clear hs)
    obtain ⟨cs1, ys, hB1, hz1, hR1, hp1, hc1⟩ := HSo.out
    have hyl := hp1.length_eq
    have HO := Lib.hid (row_own (base := w.heap.size) hB1 HF.out.1 HF.out.2.1 HF.out.2.2 hz1 hR1 hyl)
    have HB1 : Hid (Below w.heap.size w w1) := Lib.hid (HB.out.trans (hc1.toBelow HB.out.size (fun k hk => by rw [hk]; exact HF.out.1)))
    have HP1 := Lib.hid (hp1.trans HP.out)
    have HL1 := Lib.hid hyl
    clear hB1 hz1 hR1 hp1 hc1 hyl HSo HS HB HP
    go_wp2
    go_ret
    exact ⟨_, _, _, ys, rfl, HP1.out, HL1.out.symm, HO.out, HB1.out⟩
end Go.Proofs.YtklpeghhgoeeiaaGreatDoor
/- tx: offsets, placed: the words of a state. -/
namespace Go.Proofs.YtklpeghhgoeeiaaGreatDoor
open Go.RowKit Go.Maps Go.Shelf
theorem sortCell (W : World) (b n : Nat) (D : DataW Unit) (ho : W.ownsMap Tryz.prog 35 cellR b n D) (hn : Maps.size D ≤ 100) :
    Calls Tryz.prog 57 #[.func (.func 231) #[] #[.pointer (some ⟨W.heap.size, 0, none⟩)]] (W.alloc (.cells #[.map (some b)] 95)) (RetU (W.alloc (.cells #[.map (some b)] 95)) (fun ys => ys.Perm (uKeys D))) :=
  sorted_any _ _ (enters_of Tryz.func231 (by kernel_rfl) rfl) (uKeys D) (Maps.size D) (by omega) _ (keysCell_gives 9 W.heap.size b n D _ (by simp) ((Blk.new W 95 #[.map (some b)]).cell 0) (ho.alloc _) (by omega))
/-- A changed word's value, its old one, whether this lies in the log. -/
def cDec : DataW Unit → Nat × Nat × Bool
  | .agg [.lit (.int _ a), .lit (.int _ b), .lit (.bool c)] => (a.toNat, b.toNat, c)
  | _ => (0, 0, false)
theorem cDec_mk (v o : Nat) (p : Bool) : cDec (cellD v o p) = (v, o, p) := by simp [cDec, cellD]
def cAt (D : DataW Unit) (o : Nat) : Nat × Nat × Bool := cDec (D.atKey (kU o) (cellD 0 0 false))
theorem look_at {w : World} {b n : Nat} {D : DataW Unit} (h : w.ownsMap Tryz.prog 35 cellR b n D) {o : Nat} (ho : o < 18446744073709551616) :
    (Instr.lookup 95 (.map (some b)) (.int .u64 (o : Int)) true).run Tryz.prog w = .ok (.tuple #[cellV (cAt D o).1 (cAt D o).2.1 (cAt D o).2.2, .bool (has D (kU o))]) w := by
  obtain ⟨v, x, p, h1, h2⟩ := look_cell h ho
  unfold cAt
  rw [h1, h2, cDec_mk]
theorem look_at1 {w : World} {b n : Nat} {D : DataW Unit} (h : w.ownsMap Tryz.prog 35 cellR b n D) {o : Nat} (ho : o < 18446744073709551616) :
    (Instr.lookup 95 (.map (some b)) (.int .u64 (o : Int)) false).run Tryz.prog w = .ok (cellV (cAt D o).1 (cAt D o).2.1 (cAt D o).2.2) w := by
  obtain ⟨v, ps, hrun, hv⟩ := h.lookup keyedU Tryz.underlying95 (z := cellV 0 0 false) (by kernel_rfl) (cellR_mk 0 0 false) (keyU ho)
  obtain ⟨a, b, p, rfl, hz⟩ := cellR_inv hv
  unfold cAt
  rw [hrun, show D.atKey (kU o) (cellD 0 0 false) = cellD a b p from congrArg Prod.fst hz, cDec_mk]
/-- A key of the map is a word. -/
theorem key_lt {w : World} {b n : Nat} {D : DataW Unit} {R : Value → Option (DataW Unit × List MemPlace)} (h : w.ownsMap Tryz.prog 35 R b n D) {o : Nat} (ho : o ∈ uKeys D) : o < 18446744073709551616 := by
  obtain ⟨es, hD, hpw, _⟩ := h.entries keyedU
  have hko : ∀ p ∈ es, KeysOf Tryz.prog 35 p.1 := by
    obtain ⟨es', clock, _, F, _, hD'⟩ := h
    rw [hD'] at hD
    injection hD with hD
    subst hD
    exact fun p hp => fit_keys F p (mem_sorted.1 hp)
  subst hD
  obtain ⟨p, hp, rfl⟩ := List.mem_map.1 ho
  obtain ⟨v, hv⟩ := hko p hp
  obtain ⟨x, _, hx, hlt⟩ := keyOf_u64 Tryz.underlying35 hv
  rw [hx]
  simpa [litNat] using hlt
/-- The words that lie in the log, with their old or their present values. -/
def plW (D : DataW Unit) (old : Bool) (ks : List Nat) : List (Nat × Nat) := ks.filterMap fun o => if (cAt D o).2.2 then some (o, if old then (cAt D o).2.1 else (cAt D o).1) else none
theorem plW_len (D : DataW Unit) (old : Bool) (ks : List Nat) : (plW D old ks).length ≤ ks.length := List.length_filterMap_le _ _
theorem plW_take (D : DataW Unit) (old : Bool) (ks : List Nat) (k : Nat) (hk : k < ks.length) : plW D old (ks.take (k + 1)) = plW D old (ks.take k) ++ (if (cAt D ks[k]).2.2 then [(ks[k], if old then (cAt D ks[k]).2.1 else (cAt D ks[k]).1)] else []) := by
  unfold plW
  rw [takeS _ _ hk, List.filterMap_append]
  congr 1
  by_cases h : (cAt D ks[k]).2.2 = true <;> simp [h]
set_option maxRecDepth 100000 in
set_option maxHeartbeats 2000000 in
theorem offsets_any (A : Option Addr) (n c : Nat) (ws : List (Nat × Nat)) (w : World) (h : Reads w w.heap.size 2 A n (wrCells ws)) (hn : n ≤ 1000) :
    Calls Tryz.prog 132 #[.slice A n c] w (RetU w (fun ys => ys = ws.map (·.1))) := by
  obtain ⟨i0, hi0, hz0, hz1, hz2⟩ := info_parts infoU64
  have hwl : ws.length = n := by have := h.1; rw [wrCells_len] at this; omega
  have HR := Lib.hid h
  have HO0 : Hid (w.ownsRow w.heap.size 35 1 (.slice none 0 0) 0 (uCells ((ws.take 0).map (·.1)))) := World.ownsRow_nil _ _ _ _
  have HB0 := Lib.hid (Below.refl w.heap.size w)
  have HWl := Lib.hid hwl
  clear h hwl
  go_enter Tryz.func132, Tryz.ntmps132
  go_wp2
  go_loopw [3, 8] (fun l i wr => ∃ (k : Nat) (A : Option Addr) (m c : Nat), k ≤ n ∧ i = .int .i64 k ∧ l = .slice A m c ∧ m ≤ k ∧ k ≤ m ∧ Hid (wr.ownsRow w.heap.size 35 1 (.slice A m c) m (uCells ((ws.take k).map (·.1)))) ∧ Hid (Below w.heap.size w wr)) (fun _ i _ => n - (intOf i).toNat)
  case atStart => exact ⟨0, _, _, _, Nat.zero_le _, rfl, rfl, Nat.le_refl _, Nat.le_refl _, HO0, HB0⟩
  case round =>
    clear HO0 HB0
    obtain ⟨k, A1, m, c1, hk, rfl, rfl, hm1, hm2, HO, H⟩ := hrel
    by_cases hlt : k < n
    · have hkl : k < ws.length := by have := HWl.out; omega
      have hz5 : (k : Int) < (n : Int) := by omega
      have hrw := HR.out.below H.out
      obtain ⟨_, b, off, rfl, hbl, f1, f2⟩ := wr_facts hrw hlt
      have HTS := Lib.hid (takeS ws k hkl)
      generalize ws[k] = e at *
      have HLE := Lib.hid H.out.size
      clear hrw
      go_wp2_with (at_builtin; refine stop ?_)
      unfold Stop
      have HR1 := Lib.hid (row_reads_at (wr.alloc (.cells #[.int .u64 (e.1 : Int), .int .u64 (e.2 : Int)] 130)) _ rfl [.int .u64 (e.1 : Int)] 1 1 35 _ rfl rfl)
      rw [World.size_alloc] at HR1
      refine wpList_app _ (.tmp 12) (.tmp 15) 57 rfl rfl w.heap.size 35 i0 _ 1 8 Tryz.underlying57 hi0 hz0 hz1 hz2 rfl (by omega) (.slice A1 m c1) m (uCells ((ws.take k).map (·.1))) rfl ((HO.out.alloc _).alloc _) (wr.heap.size + 1 + 1) (some ⟨wr.heap.size + 1, 0, none⟩) 1 1 [.int .u64 (e.1 : Int)] rfl HR1.out (by intro u hu; simp at hu; subst hu; rfl) (by unfold maxLen; omega) (by omega) (by have := HLE.out; simp; omega) ?_
      intro A3 n3 c3 w8 hn3 ho3 hg3 hb3
      have HO4 : Hid (w8.ownsRow w.heap.size 35 1 (.slice A3 n3 c3) n3 (uCells ((ws.take (k + 1)).map (·.1)))) := Lib.hid (by rw [HTS.out, List.map_append]; simpa [uCells] using ho3)
      have HB3 := Lib.hid (((H.out.alloc H.out.size _).alloc (by have := HLE.out; simp; omega) _).trans hb3)
      have b1 : n3 ≤ k + 1 := by omega
      have b2 : k + 1 ≤ n3 := by omega
      clear hn3 ho3 hg3 hb3
      go_wp2
      go_roundw
      case rel =>
        first
          | exact ⟨k + 1, _, _, _, by omega, by go_num, rfl, b1, b2, HO4, HB3⟩
          | (repeat apply Exists.intro
             refine ⟨?_, rfl⟩
             exact ⟨k + 1, _, _, _, by omega, by go_num, rfl, b1, b2, HO4, HB3⟩)
      case measure => simp [intOf]; omega
    · have hkN : k = n := by omega
      go_wp2
      go_ret
      have h := HO.out
      rw [List.take_of_length_le (by have := HWl.out; omega)] at h
      exact ⟨_, _, _, _, rfl, rfl, by have := HWl.out; simp; omega, h, H.out⟩
end Go.Proofs.YtklpeghhgoeeiaaGreatDoor
