/- Walks: slices.Grow of nothing, slices.Concat of two, slices.Clone. -/
import Derived.Test.YtophcoaikelopaaDoorWB
import Derived.Lib.AppendZeros
import Derived.Test.YtophcoaikelopaaDoorWC
namespace Go.Proofs.YtophcoaikelopaaDoor
open Go.RowKit
/-- Columns of the call's own, behind a call. -/
def RetCols (w : World) (m : Nat) (l : List Col) (e : Ending) (w' : World) : Prop :=
  ∃ A' m' c', e = .returned (.slice A' m' c') ∧ m' = m ∧ w'.ownsRow w.heap.size 32 9 (.slice A' m' c') m' (colCells l) ∧ Below w.heap.size w w'
set_option maxRecDepth 100000 in
set_option maxHeartbeats 8000000 in
theorem grow_nil (n : Nat) (w : World) (h0 : 0 < n) (hn : n ≤ 1000) :
    Calls Tryd.prog 63 #[.slice none 0 0, .int .i64 (n : Int)] w (RetCols w 0 []) := by
  obtain ⟨i0, hi0, hz0, hz1, hz2⟩ := info_parts info32
  have happ := Lib.run_append_nil_zeros (P := Tryd.prog) w 47 3 47 32 i0 _ .i64 .i64 Tryd.underlying47 Tryd.underlying3 hi0 hz0 n h0 (by omega) (by omega) (by rw [hz2]; omega)
  generalize hcap : grownCap w n 0 32 = cap at happ
  have hcapge : n ≤ cap := by rw [← hcap]; exact grownCap_ge w _ 0 32
  have hcaple : cap ≤ maxLen := by rw [← hcap]; exact grownCap_le_maxLen w _ 0 32 (by unfold maxLen; omega)
  have HO : Hid (∀ X : Array Value, X.size = cap * 9 → (w.drew.alloc (.cells X 32)).ownsRow w.heap.size 32 9 (.slice (some ⟨w.heap.size, 0, none⟩) 0 cap) 0 []) := fun X hX =>
    World.ownsRow_made w.drew X cap (Nat.le_refl _) hcaple hX
  generalize hZ : Builtin.zeroCells _ n ++ Builtin.zeroCells _ (cap - n) = Z at happ
  have HZ : Hid (Z.size = cap * 9) := show _ = _ by rw [← hZ]; simp [size_zeroCells, Value.cells]; omega
  clear hZ hcap hi0 hz0 hz1 hz2
  have hb0 : (0 : Int) ≤ 0 := Int.le_refl _
  have hc9 : cap ≤ 9223372036854775807 := hcaple
  go_enter Tryd.func63, Tryd.ntmps63
  go_wp2_with (at_builtin; refine Lib.wpList_append_run _ rfl _ _ _ _ rfl _ _ rfl rfl _ _ happ ?_)
  go_ret
  refine ⟨_, _, _, rfl, rfl, HO.out Z HZ.out, ?_⟩
  exact (Below.refl _ _).drew.alloc (Nat.le_refl _) _
theorem colCells_app (a b : List Col) : colCells (a ++ b) = colCells a ++ colCells b := by simp [colCells]
theorem idxCells_app (a b : List Idx) : idxCells (a ++ b) = idxCells a ++ idxCells b := by simp [idxCells]
theorem colCells_one (a : List Col) : ∀ u ∈ colCells a, u.oneCell' = true := by
  intro u hu
  simp only [colCells, List.mem_flatMap] at hu
  obtain ⟨c, _, hc⟩ := hu
  exact cells_one c u hc
theorem idxCells_one (a : List Idx) : ∀ u ∈ idxCells a, u.oneCell' = true := by
  intro u hu
  simp only [idxCells, List.mem_flatMap] at hu
  obtain ⟨c, _, hc⟩ := hu
  exact icells_one c u hc
def catAt (a b : List Col) : Nat → List Col
  | 0 => []
  | 1 => a
  | _ => a ++ b
set_option maxRecDepth 100000 in
set_option maxHeartbeats 8000000 in
theorem concat2 (A A2 : Option Addr) (n c n2 c2 : Nat) (a b : List Col) (g : Nat) (w : World) (hb : Blk w g 47 #[.slice A n c, .slice A2 n2 c2]) (h1 : Reads w w.heap.size 9 A n (colCells a)) (h2 : Reads w w.heap.size 9 A2 n2 (colCells b)) (hn : 0 < n + n2) (hn1 : n ≤ 100) (hn2 : n2 ≤ 100) :
    Calls Tryd.prog 58 #[.slice (some ⟨g, 0, none⟩) 2 2] w (RetCols w (n + n2) (a ++ b)) := by
  have HB := Lib.hid hb
  have H1 := Lib.hid h1
  have H2 := Lib.hid h2
  have f0 : w.cell? ⟨g, 0, none⟩ = some (.slice A n c) := hb.cell 0
  have f1 : w.cell? ⟨g, 1, none⟩ = some (.slice A2 n2 c2) := hb.cell 1
  have HG := Lib.hid (grow_nil (n + n2) w hn (by omega))
  clear hb h1 h2
  go_enter Tryd.func58, Tryd.ntmps58
  go_wp2
  go_loopw [3, 11] (fun z i wr => ∃ (k m : Nat), k ≤ 2 ∧ i = .int .i64 k ∧ z = .int .i64 m ∧ (k = 0 → m = 0) ∧ (k = 1 → m = n) ∧ (k = 2 → m = n + n2) ∧ w = wr) (fun _ i _ => 2 - (intOf i).toNat)
  case atStart => exact ⟨0, 0, by omega, rfl, rfl, fun _ => rfl, by omega, by omega, rfl⟩
  case round =>
    obtain ⟨k, m, hk, rfl, rfl, hm0, hm1, hm2, rfl⟩ := hrel
    have hd : ¬ ((m : Int) + (n : Int) < 0) := by omega
    have hd' : ¬ ((m : Int) + (n2 : Int) < 0) := by omega
    rcases (show k = 0 ∨ k = 1 ∨ k = 2 by omega) with rfl | rfl | rfl
    · obtain rfl := hm0 rfl
      go_wp2
      go_roundw
      case rel => exact ⟨1, n, by omega, by go_num, by go_num, by omega, by omega, by omega, trivial⟩
      case measure => simp [intOf]
    · obtain rfl := hm1 rfl
      go_wp2
      go_roundw
      case rel => exact ⟨2, m + n2, by omega, by go_num, by go_num, by omega, by omega, by omega, trivial⟩
      case measure => simp [intOf]
    · obtain rfl := hm2 rfl
      obtain ⟨i0, hi0, hz0, hz1, hz2⟩ := info_parts info32
      go_wp2_with (go_at_call 63; refine HG.out.mono ?_; rintro e w1 ⟨A1, n1, c1, rfl, hn1, ho1, hb1⟩; have HO1 := Lib.hid ho1; have HB1 := Lib.hid hb1; have HN1 := Lib.hid hn1; clear ho1 hb1 hn1)
      go_loopw [6, 27] (fun v i wr => ∃ (k : Nat) (A' : Option Addr) (m c' : Nat), k ≤ 2 ∧ i = .int .i64 k ∧ v = .slice A' m c' ∧ (k = 0 → m = 0) ∧ (k = 1 → m = n) ∧ (k = 2 → m = n + n2) ∧ Hid (wr.ownsRow w.heap.size 32 9 (.slice A' m c') m (colCells (catAt a b k))) ∧ Hid (Below w.heap.size w wr)) (fun _ i _ => 2 - (intOf i).toNat)
      case atStart => exact ⟨0, _, _, _, by omega, rfl, rfl, fun _ => HN1.out, by omega, by omega, HO1, HB1⟩
      case round =>
        obtain ⟨k, A', m, c', hk, rfl, rfl, hm0, hm1, hm2, HO, HW⟩ := hrel
        clear HO1 HB1 HN1
        have f0 : wr.cell? ⟨g, 0, none⟩ = some (.slice A n c) := (HB.out.below HW.out HB.out.lt).cell 0
        have f1 : wr.cell? ⟨g, 1, none⟩ = some (.slice A2 n2 c2) := (HB.out.below HW.out HB.out.lt).cell 1
        rcases (show k = 0 ∨ k = 1 ∨ k = 2 by omega) with rfl | rfl | rfl
        · obtain rfl := hm0 rfl
          go_wp2_with (at_builtin; refine wpList_app _ (.tmp 31) (.tmp 32) 47 rfl rfl w.heap.size 32 i0 _ 9 72 Tryd.underlying47 hi0 hz0 hz1 hz2 rfl ?q1 (.slice A' 0 c') 0 (colCells (catAt a b 0)) rfl HO.out w.heap.size A n c (colCells a) rfl ?q5 ?q6 ?q2 ?q3 ?q4 ?_; (case q1 => omega); (case q5 => exact H1.out.below HW.out); (case q6 => exact colCells_one a); (case q2 => (unfold maxLen; omega)); (case q3 => omega); (case q4 => exact HW.out.size); intro A3 n3 c3 w8 hn3 ho3 hg3 hb3; have HN3 := Lib.hid hn3; have HO3 := Lib.hid ho3; have HB3 := Lib.hid (HW.out.trans hb3); clear hn3 ho3 hg3 hb3)
          go_roundw
          case rel => exact ⟨1, _, _, _, by omega, by go_num, rfl, by omega, fun _ => HN3.out.trans (Nat.zero_add _), by omega, HO3, HB3⟩
          case measure => simp [intOf]
        · obtain rfl := hm1 rfl
          go_wp2_with (at_builtin; refine wpList_app _ (.tmp 31) (.tmp 32) 47 rfl rfl w.heap.size 32 i0 _ 9 72 Tryd.underlying47 hi0 hz0 hz1 hz2 rfl ?q1 (.slice A' m c') m (colCells (catAt a b 1)) rfl HO.out w.heap.size A2 n2 c2 (colCells b) rfl ?q5 ?q6 ?q2 ?q3 ?q4 ?_; (case q1 => omega); (case q5 => exact H2.out.below HW.out); (case q6 => exact colCells_one b); (case q2 => (unfold maxLen; omega)); (case q3 => omega); (case q4 => exact HW.out.size); intro A3 n3 c3 w8 hn3 ho3 hg3 hb3; have HN3 := Lib.hid hn3; have HO3 := Lib.hid ho3; have HB3 := Lib.hid (HW.out.trans hb3); clear hn3 ho3 hg3 hb3)
          have HO4 : Hid (w8.ownsRow w.heap.size 32 9 (.slice A3 n3 c3) n3 (colCells (catAt a b 2))) := by have h := HO3.out; rw [← colCells_app] at h; exact h
          go_roundw
          case rel => exact ⟨2, _, _, _, by omega, by go_num, rfl, by omega, by omega, fun _ => HN3.out, HO4, HB3⟩
          case measure => simp [intOf]
        · obtain rfl := hm2 rfl
          go_wp2
          go_ret
          exact ⟨_, _, _, rfl, rfl, HO.out, HW.out⟩
end Go.Proofs.YtophcoaikelopaaDoor
