/- The walks and laws that the claim leans on, part 9: each part says ahead of its lines what it holds. -/
import Derived.Test.YtklpeghhgoeeiaaGreatDoorJah
/- arena.Open over undivided chunks. -/
namespace Go.Proofs.YtklpeghhgoeeiaaGreatDoor
open Go.RowKit

theorem infoPlace : (Tryz.prog.info? 282).map (fun i => (i.zero, i.size, i.bytes)) = some (some (.agg #[.int .i64 0, .int .i64 0, .int .i64 0, .bool false]), 4, 32) := by kernel_rfl
/-- The places of undivided chunks. -/
def plCells (s : Nat) (k : Nat) : List Value := (List.range k).flatMap fun j => [.int .i64 ((s + 32 * j : Nat) : Int), .int .i64 (-1), .int .i64 (-1), .bool false]
theorem plCells_succ (s k : Nat) : plCells s (k + 1) = plCells s k ++ [.int .i64 ((s + 32 * k : Nat) : Int), .int .i64 (-1), .int .i64 (-1), .bool false] := by simp [plCells, List.range_succ]
/-- An arena in memory. -/
def SetIs (a : DA) (s k : Nat) (w : World) (base g : Nat) : Prop := ∃ A m c, Blk w g 290 #[memV a, .slice A m c] ∧ m = k ∧ w.ownsRow base 282 4 (.slice A m c) m (plCells s k)
def AopS (w w1 : World) (A : Option Addr) (m c : Nat) (w' : World) : Prop := w'.cell? ⟨w.heap.size, 1, none⟩ = some (.slice A m c) ∧ w'.cell? ⟨w1.heap.size, 0, none⟩ = some (.int .i64 (-1)) ∧ w'.cell? ⟨w1.heap.size, 1, none⟩ = some (.int .i64 (-1))
/-- While the places are found. -/
structure AopI (a : DA) (w wr : World) (s k : Nat) (A : Option Addr) (m c : Nat) : Prop where
  below : Below w.heap.size w wr
  set_ : Blk wr w.heap.size 290 #[memV a, .slice A m c]
  own : wr.ownsRow (w.heap.size + 1) 282 4 (.slice A m c) m (plCells s k)
  hm : m = k
set_option maxRecDepth 100000 in
set_option maxHeartbeats 4000000 in
theorem arenaOpen_any {a : DA} {L T : Nat} {w : World} {S : Fp} {cur : Nat → Nat} {F : Nat} (h : Dev a L T w S cur F) (ht : Tab w) (s n K : Nat) (hn : 32 ≤ n) (hs : s + n ≤ L) (hK : n / 32 = K) (hv : ∀ k, k < K → cur (8 * (s + 32 * k)) = freeW 1) :
    Calls Tryz.prog 179 #[memV a, .int .i64 (s : Int), .int .i64 (n : Int)] w fun e w' => e = .returned (.tuple #[.pointer (some ⟨w.heap.size, 0, none⟩), .int .i64 0]) ∧ SetIs a s K w' (w.heap.size + 1) w.heap.size ∧ Below w.heap.size w w' := by
  have HV := Lib.hid (arenaValid_any h s n hn hs)
  have HD := Lib.hid h
  have HT := Lib.hid ht
  have HVV := Lib.hid hv
  obtain ⟨i0, hi0, hz0, hz1, hz2⟩ := info_parts infoPlace
  have HI0 : Hid (AopI a w (w.alloc (.cells #[memV a, .slice none 0 0] 290)) s 0 none 0 0) := ⟨(Below.refl _ _).alloc (Nat.le_refl _) _, Blk.new _ _ _, World.ownsRow_nil _ _ _ _, rfl⟩
  obtain ⟨ls, exe, per, cs, lsC, hdc, hnt⟩ := h
  have hL := hdc.hL
  obtain ⟨f0, _, _, _, g2⟩ := hdc.facts (j := 0) (by omega)
  have hmE := methErr (some ⟨a.th 0, 0, none⟩)
  have d2 : (n : Int).tdiv 32 = (K : Int) := by rw [Int.tdiv_eq_ediv_of_nonneg (by omega)]; omega
  have d3 : (n : Int) / 32 = (K : Int) := by omega
  have hK32 : K * 32 ≤ n := by omega
  clear hdc hnt ht hK hv
  unfold memV at *
  go_enter Tryz.func179, Tryz.ntmps179
  go_wp2_with (first
    | (go_at_call 173; refine HV.out.mono ?_; rintro e w1 ⟨rfl, rfl⟩)
    | go_in)
  clear f0 g2 HV
  go_loopw [29] (fun i wr => ∃ (k : Nat) (A : Option Addr) (m c : Nat), k ≤ K ∧ i = .int .i64 k ∧ Hid (AopI a w wr s k A m c)) (fun i _ => K - (intOf i).toNat)
  case atStart => exact ⟨0, _, _, _, Nat.zero_le _, rfl, HI0⟩
  case round =>
    clear HI0
    obtain ⟨k, A, m, c, hk, rfl, H⟩ := hrel
    by_cases hlt : k < K
    · have HLK := Lib.hid (look_free (HD.out.below H.out.below) (HT.out.below H.out.below) (s + 32 * k) (by omega) (HVV.out k hlt))
      have e7 : ((s + 32 * k : Nat) : Int) = (s : Int) + (k : Int) * 32 := by omega
      rw [e7] at HLK
      unfold memV at HLK
      have hz : (s : Int) + (k : Int) * 32 ≤ 4096 := by omega
      go_wp2_with (first
        | (go_at_call 194; refine HLK.out.mono ?_; rintro e w1 ⟨rfl, hb1⟩; have HB1 := Lib.hid hb1; clear hb1)
        | go_in)
      have HSW := Lib.hid ((H.out.set_.below HB1.out H.out.set_.lt).alloc (.cells #[.int .i64 (-1), .int .i64 (-1), .int .u16 1] 213))
      have HHW := Lib.hid (Blk.new w1 213 #[.int .i64 (-1), .int .i64 (-1), .int .u16 1])
      have HBW := Lib.hid ((H.out.below.trans (HB1.out.mono H.out.below.size)).alloc (Nat.le_trans H.out.below.size HB1.out.size) (.cells #[.int .i64 (-1), .int .i64 (-1), .int .u16 1] 213))
      have HOW := Lib.hid ((own_below H.out.own HB1.out).alloc (.cells #[.int .i64 (-1), .int .i64 (-1), .int .u16 1] 213))
      generalize w1.alloc (.cells #[.int .i64 (-1), .int .i64 (-1), .int .u16 1] 213) = W at *
      have HS0 : Hid (AopS w w1 A m c W.drew) := Lib.hid ⟨HSW.out.cell 1, HHW.out.cell 0, HHW.out.cell 1⟩
      refine wp_region_script (AopS w w1 A m c) 13 [(true, 0), (true, 1), (true, 2), (true, 3), (true, 4), (true, 5), (true, 6), (true, 7), (true, 8), (true, 9), (true, 10), (false, 11), (false, 12)] (by kernel_rfl) (by kernel_rfl) HS0.out ?_
      refine wpScript_take (.pointer (some ⟨w.heap.size, 0, none⟩)) (by rfl) (by rfl) (fun w' hS => ?_) ?_
      · go_simp
      simp only [List.getElem_toArray, List.getElem_cons_zero, Act.put, List.setIfInBounds_toArray, List.set_cons_zero, List.set_cons_succ]
      refine wpScript_take (.pointer (some ⟨w.heap.size, 0, none⟩)) (by rfl) (by rfl) (fun w' hS => ?_) ?_
      · go_simp
      simp only [List.getElem_toArray, List.getElem_cons_zero, List.getElem_cons_succ, Act.put, List.setIfInBounds_toArray, List.set_cons_zero, List.set_cons_succ]
      refine wpScript_take (.pointer (some ⟨w.heap.size, 0, none⟩)) (by rfl) (by rfl) (fun w' hS => ?_) ?_
      · go_simp
      simp only [List.getElem_toArray, List.getElem_cons_zero, List.getElem_cons_succ, Act.put, List.setIfInBounds_toArray, List.set_cons_zero, List.set_cons_succ]
      refine wpScript_take (.pointer (some ⟨w.heap.size, 1, none⟩)) (by rfl) (by rfl) (fun w' hS => ?_) ?_
      · go_simp
      simp only [List.getElem_toArray, List.getElem_cons_zero, List.getElem_cons_succ, Act.put, List.setIfInBounds_toArray, List.set_cons_zero, List.set_cons_succ]
      refine wpScript_take (.slice A m c) (by rfl) (by rfl) (fun w' hS => ?_) ?_
      · have f1 := hS.1
        go_simp
      simp only [List.getElem_toArray, List.getElem_cons_zero, List.getElem_cons_succ, Act.put, List.setIfInBounds_toArray, List.set_cons_zero, List.set_cons_succ]
      refine wpScript_take (.int .i64 ((s : Int) + (k : Int) * 32)) (by rfl) (by rfl) (fun w' hS => ?_) ?_
      · go_simp
      simp only [List.getElem_toArray, List.getElem_cons_zero, List.getElem_cons_succ, Act.put, List.setIfInBounds_toArray, List.set_cons_zero, List.set_cons_succ]
      refine wpScript_take (.pointer (some ⟨w1.heap.size, 0, none⟩)) (by rfl) (by rfl) (fun w' hS => ?_) ?_
      · go_simp
      simp only [List.getElem_toArray, List.getElem_cons_zero, List.getElem_cons_succ, Act.put, List.setIfInBounds_toArray, List.set_cons_zero, List.set_cons_succ]
      refine wpScript_take (.int .i64 (-1)) (by rfl) (by rfl) (fun w' hS => ?_) ?_
      · have f1 := hS.2.1
        go_simp
      simp only [List.getElem_toArray, List.getElem_cons_zero, List.getElem_cons_succ, Act.put, List.setIfInBounds_toArray, List.set_cons_zero, List.set_cons_succ]
      refine wpScript_take (.pointer (some ⟨w1.heap.size, 1, none⟩)) (by rfl) (by rfl) (fun w' hS => ?_) ?_
      · go_simp
      simp only [List.getElem_toArray, List.getElem_cons_zero, List.getElem_cons_succ, Act.put, List.setIfInBounds_toArray, List.set_cons_zero, List.set_cons_succ]
      refine wpScript_take (.int .i64 (-1)) (by rfl) (by rfl) (fun w' hS => ?_) ?_
      · have f1 := hS.2.2
        go_simp
      simp only [List.getElem_toArray, List.getElem_cons_zero, List.getElem_cons_succ, Act.put, List.setIfInBounds_toArray, List.set_cons_zero, List.set_cons_succ]
      refine wpScript_take (.agg #[.int .i64 ((s : Int) + (k : Int) * 32), .int .i64 (-1), .int .i64 (-1), .bool false]) (by rfl) (by rfl) (fun w' hS => ?_) ?_
      · go_simp
      simp only [List.getElem_toArray, List.getElem_cons_zero, List.getElem_cons_succ, Act.put, List.setIfInBounds_toArray, List.set_cons_zero, List.set_cons_succ]
      have hmk : m ≤ 128 := by have := H.out.hm; omega
      have HLE := Lib.hid HBW.out.size
      have HLT := Lib.hid HSW.out.lt
      refine wpScript_do (by rfl) ?_
      go_wp2
      have HSA := Lib.hid ((HSW.out.alloc (.cells #[.int .i64 ((s : Int) + (k : Int) * 32), .int .i64 (-1), .int .i64 (-1), .bool false] 282)).drew)
      have HHA := Lib.hid ((HHW.out.alloc (.cells #[.int .i64 ((s : Int) + (k : Int) * 32), .int .i64 (-1), .int .i64 (-1), .bool false] 282)).drew)
      have HOA := Lib.hid ((HOW.out.alloc (.cells #[.int .i64 ((s : Int) + (k : Int) * 32), .int .i64 (-1), .int .i64 (-1), .bool false] 282)).drew)
      have HRA : Hid (Reads (W.alloc (.cells #[.int .i64 ((s : Int) + (k : Int) * 32), .int .i64 (-1), .int .i64 (-1), .bool false] 282)).drew (W.heap.size + 1) 4 (some ⟨W.heap.size, 0, none⟩) 1 [.int .i64 ((s : Int) + (k : Int) * 32), .int .i64 (-1), .int .i64 (-1), .bool false]) := Lib.hid (row_reads_at W W.heap.size rfl [.int .i64 ((s : Int) + (k : Int) * 32), .int .i64 (-1), .int .i64 (-1), .bool false] 1 4 282 _ rfl rfl)
      have HBA := Lib.hid ((HBW.out.alloc HBW.out.size (.cells #[.int .i64 ((s : Int) + (k : Int) * 32), .int .i64 (-1), .int .i64 (-1), .bool false] 282)).drew)
      have HLA : Hid (w.heap.size + 1 ≤ (W.alloc (.cells #[.int .i64 ((s : Int) + (k : Int) * 32), .int .i64 (-1), .int .i64 (-1), .bool false] 282)).drew.heap.size) := Lib.hid (by have := HLT.out; simp; omega)
      generalize (W.alloc (.cells #[.int .i64 ((s : Int) + (k : Int) * 32), .int .i64 (-1), .int .i64 (-1), .bool false] 282)).drew = WA at *
      clear HSW HHW HOW HBW HS0 HLE HLT
      refine ⟨⟨HSA.out.cell 1, HHA.out.cell 0, HHA.out.cell 1⟩, ?_⟩
      refine wpScript_do (by rfl) ?_
      refine wpList_app _ (.tmp 49) (.tmp 56) 288 rfl rfl (w.heap.size + 1) 282 i0 _ 4 32 Tryz.underlying288 hi0 hz0 hz1 hz2 rfl (by omega) (.slice A m c) m (plCells s k) rfl HOA.out (W.heap.size + 1) (some ⟨W.heap.size, 0, none⟩) 1 1 [.int .i64 ((s : Int) + (k : Int) * 32), .int .i64 (-1), .int .i64 (-1), .bool false] rfl HRA.out (by intro u hu; simp at hu; rcases hu with rfl | rfl | rfl <;> rfl) (by unfold maxLen; omega) (by omega) HLA.out ?_
      intro A3 n3 c3 w8 hn3 ho3 hg3 hb3
      have HN3 := Lib.hid hn3
      have HO3 := Lib.hid ho3
      have HS8 := Lib.hid ((HSA.out.grown hg3 (fun e => own_blk_ne HOA.out HSA.out (by decide) e.symm)) : Blk w8 w.heap.size 290 #[memV a, .slice A m c])
      have HH8 := Lib.hid (HHA.out.grown hg3 (fun e => own_blk_ne HOA.out HHA.out (by decide) e.symm))
      have HB8 := Lib.hid ((HBA.out.trans (hb3.mono (Nat.le_succ _))) : Below w.heap.size w w8)
      have z1 : w8.frozen? ⟨w.heap.size, 1, none⟩ = false := HS8.out.frozen 1
      have c1 : w8.cell? ⟨w.heap.size, 1, none⟩ = some (.slice A m c) := HS8.out.cell 1
      clear hn3 ho3 hg3 hb3
      refine ⟨⟨HS8.out.cell 1, HH8.out.cell 0, HH8.out.cell 1⟩, ?_⟩
      show wpList _ _ _ _ _ _
      simp only [List.drop_succ_cons, List.drop_zero]
      go_wp2
      refine NoPanic.normal ?_
      go_wp2
      have HI1 : Hid (AopI a w (w8.setCell ⟨w.heap.size, 1, none⟩ (.slice A3 n3 c3)) s (k + 1) A3 n3 c3) := by
        refine ⟨HB8.out.setCell (Nat.le_refl _) _, HS8.out.set_ 1 _, ?_, ?_⟩
        · rw [plCells_succ, e7]
          exact ownsRow_setCell_other HO3.out (a := ⟨w.heap.size, 1, none⟩) (own_blk_ne HO3.out HS8.out (by decide)) _
        · have := HN3.out; have := H.out.hm; omega
      go_roundw
      case rel =>
        repeat apply Exists.intro
        refine ⟨?_, rfl⟩
        exact ⟨k + 1, _, _, _, by omega, by go_num, HI1⟩
      case measure => simp [intOf]; omega
    · obtain rfl : k = K := by omega
      go_wp2
      go_ret2
      exact ⟨rfl, ⟨A, m, c, H.out.set_, H.out.hm, H.out.own⟩, H.out.below⟩
end Go.Proofs.YtklpeghhgoeeiaaGreatDoor
/- arena: Lines, find, Owner over undivided chunks. -/
namespace Go.Proofs.YtklpeghhgoeeiaaGreatDoor
open Go.RowKit
theorem infoInt : (Tryz.prog.info? 3).map (fun i => (i.zero, i.size, i.bytes)) = some (some (.int .i64 0), 1, 8) := by kernel_rfl
def iCells (l : List Int) : List Value := l.map fun x => Value.int .i64 x
theorem plCells_at (s : Nat) : ∀ (n k : Nat), k < n → (plCells s n)[k * 4]? = some (.int .i64 ((s + 32 * k : Nat) : Int)) ∧ (plCells s n)[k * 4 + 1]? = some (.int .i64 (-1)) ∧ (plCells s n)[k * 4 + 2]? = some (.int .i64 (-1)) ∧ (plCells s n)[k * 4 + 3]? = some (.bool false)
  | n + 1, k, h => by
    have hl : (plCells s n).length = n * 4 := by
      clear h
      induction n with
      | zero => rfl
      | succ n ih => rw [plCells_succ, List.length_append, ih]; simp; omega
    rw [plCells_succ]
    by_cases hk : k < n
    · obtain ⟨h0, h1, h2, h3⟩ := plCells_at s n k hk
      refine ⟨?_, ?_, ?_, ?_⟩ <;> rw [List.getElem?_append_left (by omega)] <;> assumption
    · obtain rfl : k = n := by omega
      refine ⟨?_, ?_, ?_, ?_⟩ <;> rw [List.getElem?_append_right (by omega), hl] <;> simp
theorem pl_facts {w : World} {B n s : Nat} {A : Option Addr} (h : Reads w B 4 A n (plCells s n)) {k : Nat} (hk : k < n) :
    ∃ b off : Nat, A = some ⟨b, off, none⟩ ∧ b < B ∧ w.cell? ⟨b, off + k * 4, none⟩ = some (.int .i64 ((s + 32 * k : Nat) : Int)) ∧ w.cell? ⟨b, off + k * 4 + 1, none⟩ = some (.int .i64 (-1)) ∧ w.cell? ⟨b, off + k * 4 + 2, none⟩ = some (.int .i64 (-1)) ∧ w.cell? ⟨b, off + k * 4 + 3, none⟩ = some (.bool false) := by
  obtain ⟨b, off, hA, hb, hc⟩ := h.plain (by omega) (by omega)
  obtain ⟨h0, h1, h2, h3⟩ := plCells_at s n k hk
  exact ⟨b, off, hA, hb, hc _ _ h0, hc _ _ h1, hc _ _ h2, hc _ _ h3⟩
/-- What Lines hands back. -/
def RetLines (w : World) (K : Nat) (e : Ending) (w' : World) : Prop := ∃ A m c l, e = .returned (.slice A m c) ∧ m ≤ K ∧ w'.ownsRow w.heap.size 3 1 (.slice A m c) m (iCells l) ∧ Below w.heap.size w w'
set_option maxRecDepth 100000 in
set_option maxHeartbeats 4000000 in
theorem lines_any {a : DA} {s K base g : Nat} {w : World} (h : SetIs a s K w base g) (hK : K ≤ 128) :
    Calls Tryz.prog 170 #[.pointer (some ⟨g, 0, none⟩)] w (RetLines w K) := by
  obtain ⟨A, m, c, hB, rfl, ho⟩ := h
  obtain ⟨i0, hi0, hz0, hz1, hz2⟩ := info_parts infoInt
  have HR := Lib.hid (Reads.of_own ho)
  have f1 : w.cell? ⟨g, 1, none⟩ = some (.slice A m c) := hB.cell 1
  have HB0 : Hid (Below w.heap.size w w) := Below.refl _ _
  have HO0 : Hid (w.ownsRow w.heap.size 3 1 (.slice none 0 0) 0 (iCells [])) := World.ownsRow_nil _ _ _ _
  clear ho hB
  go_enter Tryz.func170, Tryz.ntmps170
  go_wp2
  go_loopw [3, 13] (fun p i wr => ∃ (k : Nat) (A1 : Option Addr) (m1 c1 : Nat) (l : List Int), k ≤ m ∧ i = .int .i64 k ∧ p = .slice A1 m1 c1 ∧ m1 ≤ k ∧ Hid (wr.ownsRow w.heap.size 3 1 (.slice A1 m1 c1) m1 (iCells l)) ∧ Hid (Below w.heap.size w wr)) (fun _ i _ => m - (intOf i).toNat)
  case atStart => exact ⟨0, _, _, _, _, Nat.zero_le _, rfl, rfl, Nat.le_refl _, HO0, HB0⟩
  case round =>
    clear HB0 HO0
    obtain ⟨k, A1, m1, c1, l, hk, rfl, rfl, hm1, HO, H⟩ := hrel
    by_cases hlt : k < m
    · obtain ⟨b, off, hA, hbB, f0, f2, f3, f4⟩ := pl_facts (HR.out.below H.out) hlt
      subst hA
      have hz5 : (0 : Int) ≤ (k : Int) := by omega
      have hz6 : (k : Int) < (m : Int) := by omega
      generalize ((s + 32 * k : Nat) : Int) = v at *
      have HLE := Lib.hid H.out.size
      have HOD := Lib.hid ((HO.out.alloc (.cells #[.int .i64 v, .int .i64 (-1), .int .i64 (-1), .bool false] 282)).alloc (.cells #[.int .i64 v] 3))
      have HBD := Lib.hid ((H.out.alloc H.out.size (.cells #[.int .i64 v, .int .i64 (-1), .int .i64 (-1), .bool false] 282)).alloc (by have := H.out.size; simp; omega) (.cells #[.int .i64 v] 3))
      clear H HO
      go_wp2_with (first
        | (at_builtin; refine wpList_app _ (.tmp 17) (.tmp 20) 37 rfl rfl w.heap.size 3 i0 _ 1 8 Tryz.underlying37 hi0 hz0 hz1 hz2 rfl ?q1 (.slice A1 m1 c1) m1 (iCells l) rfl HOD.out (wr.heap.size + 1 + 1) (some ⟨wr.heap.size + 1, 0, none⟩) 1 1 [.int .i64 v] rfl ?q5 ?q6 ?q2 ?q3 ?q4 ?_; (case q1 => omega); (case q5 => exact row_reads_at _ _ (by simp) _ 1 1 3 _ rfl rfl); (case q6 => (intro u hu; simp at hu; subst hu; rfl)); (case q2 => (unfold maxLen; omega)); (case q3 => omega); (case q4 => (have := HLE.out; simp; omega)); intro A3 n3 c3 w8 hn3 ho3 hg3 hb3; have HN3 := Lib.hid hn3; have HO3 := Lib.hid ho3; have HB3 := Lib.hid (HBD.out.trans hb3); clear hn3 ho3 hg3 hb3)
        | go_in)
      have b1 : n3 ≤ k + 1 := by have := HN3.out; omega
      have HO4 : Hid (w8.ownsRow w.heap.size 3 1 (.slice A3 n3 c3) n3 (iCells (l ++ [v]))) := Lib.hid (by have h := HO3.out; simpa [iCells] using h)
      go_roundw
      case rel =>
        first
          | exact ⟨k + 1, _, _, _, _, by omega, by go_num, rfl, b1, HO4, HB3⟩
          | (repeat apply Exists.intro
             refine ⟨?_, rfl⟩
             exact ⟨k + 1, _, _, _, _, by omega, by go_num, rfl, b1, HO4, HB3⟩)
      case measure => simp [intOf]; omega
    · obtain rfl : m = k := by omega
      go_wp2
      go_ret
      exact ⟨_, _, _, _, rfl, hm1, HO.out, H.out⟩
/-- What find hands back. -/
def RetFind (w : World) (e : Ending) (w' : World) : Prop := ∃ p, e = .returned (.pointer p) ∧ (p = none ∨ ∃ b off, p = some ⟨b, off, none⟩ ∧ w'.cell? ⟨b, off + 2, none⟩ = some (.int .i64 (-1))) ∧ w = w'
set_option maxRecDepth 100000 in
set_option maxHeartbeats 4000000 in
theorem find_any {a : DA} {s K base g : Nat} {w : World} (h : SetIs a s K w base g) (hK : K ≤ 128) (x : Int) :
    Calls Tryz.prog 205 #[.pointer (some ⟨g, 0, none⟩), .int .i64 x] w (RetFind w) := by
  obtain ⟨A, m, c, hB, rfl, ho⟩ := h
  have HR := Lib.hid (Reads.of_own ho)
  have f1 : w.cell? ⟨g, 1, none⟩ = some (.slice A m c) := hB.cell 1
  clear ho hB
  go_enter Tryz.func205, Tryz.ntmps205
  go_wp2
  go_loopw [13] (fun i wr => ∃ (k : Nat), k ≤ m ∧ i = .int .i64 k ∧ w = wr) (fun i _ => m - (intOf i).toNat)
  case atStart => exact ⟨0, Nat.zero_le _, rfl, rfl⟩
  case round =>
    obtain ⟨k, hk, rfl, rfl⟩ := hrel
    by_cases hlt : k < m
    · obtain ⟨b, off, hA, hbB, f0, f2, f3, f4⟩ := pl_facts HR.out hlt
      subst hA
      have hz5 : (0 : Int) ≤ (k : Int) := by omega
      have hz6 : (k : Int) < (m : Int) := by omega
      generalize ((s + 32 * k : Nat) : Int) = v at *
      by_cases hv : v = x
      · have hq : (v == x) = true := by simp [hv]
        go_wp2
        go_ret
        exact ⟨_, rfl, .inr ⟨b, off + k * 4, rfl, f3⟩, rfl⟩
      · have hq : (v == x) = false := by simp [hv]
        go_wp2
        go_roundw
        case rel =>
          first
            | exact ⟨k + 1, by omega, by go_num, trivial⟩
            | exact ⟨k + 1, by omega, by go_num, rfl⟩
            | (repeat apply Exists.intro
               refine ⟨?_, rfl⟩
               exact ⟨k + 1, by omega, by go_num, rfl⟩)
        case measure => simp [intOf]; omega
    · obtain rfl : m = k := by omega
      go_wp2
      go_ret
      exact ⟨_, rfl, .inl rfl, rfl⟩
set_option maxRecDepth 100000 in
set_option maxHeartbeats 4000000 in
theorem owner_any {a : DA} {s K base g : Nat} {w : World} (h : SetIs a s K w base g) (hK : K ≤ 128) (x : Int) :
    Calls Tryz.prog 180 #[.pointer (some ⟨g, 0, none⟩), .int .i64 x] w fun e w' => e = .returned (.int .i64 (-1)) ∧ w = w' := by
  have HF := Lib.hid (find_any h hK x)
  clear h
  go_enter Tryz.func180, Tryz.ntmps180
  go_wp2_with fail
  refine HF.out.mono ?_
  rintro e w1 ⟨p, rfl, hp, rfl⟩
  rcases hp with rfl | ⟨b, off, rfl, f2⟩
  · go_wp2
    go_ret
    exact ⟨rfl, rfl⟩
  · go_wp2
    go_ret
    exact ⟨rfl, rfl⟩
end Go.Proofs.YtklpeghhgoeeiaaGreatDoor
/- alloc.Open over undivided chunks. -/
namespace Go.Proofs.YtklpeghhgoeeiaaGreatDoor
open Go.RowKit
theorem i_facts {w : World} {B n : Nat} {A : Option Addr} {l : List Int} (h : Reads w B 1 A n (iCells l)) {k : Nat} (hk : k < n) :
    ∃ (b off : Nat) (x : Int), A = some ⟨b, off, none⟩ ∧ b < B ∧ w.cell? ⟨b, off + k, none⟩ = some (.int .i64 x) := by
  have hl : k < l.length := by have := h.1; simp [iCells] at this; omega
  obtain ⟨b, off, hA, hb, hc⟩ := h.plain (by omega) (by omega)
  exact ⟨b, off, l[k], hA, hb, hc k _ (by simp [iCells, hl])⟩
theorem SetIs.below {a : DA} {s K base g : Nat} {w w' : World} (h : SetIs a s K w base g) (hb : Below w.heap.size w w') : SetIs a s K w' base g := by
  obtain ⟨A, m, c, hB, hm, ho⟩ := h
  exact ⟨A, m, c, hB.below hb hB.lt, hm, own_below ho hb⟩
/-- The block of a heap. -/
def heapCells (a : DA) (s n gs mr mh : Nat) (lk : Bool) : Array Value := #[memV a, .int .i64 (s : Int), .int .i64 (n : Int), .pointer (some ⟨gs, 0, none⟩), .map (some mr), .map (some mh), .map none, .bool lk]
def RetHeap (a : DA) (s n : Nat) (w : World) (e : Ending) (w' : World) : Prop := ∃ g gs mr mh, e = .returned (.tuple #[.pointer (some ⟨g, 0, none⟩), .int .i64 0]) ∧ Blk w' g 150 (heapCells a s n gs mr mh false) ∧ w.heap.size ≤ g ∧ Below w.heap.size w w'
set_option maxRecDepth 100000 in
set_option maxHeartbeats 4000000 in
theorem heapOpen_any {a : DA} {L T : Nat} {w : World} {S : Fp} {cur : Nat → Nat} {F : Nat} (h : Dev a L T w S cur F) (ht : Tab w) (s n K : Nat) (hn : 32 ≤ n) (hs : s + n ≤ L) (hK : n / 32 = K) (hv : ∀ k, k < K → cur (8 * (s + 32 * k)) = freeW 1) :
    Calls Tryz.prog 117 #[memV a, .int .i64 (s : Int), .int .i64 (n : Int)] w (RetHeap a s n w) := by
  have HA := Lib.hid (arenaOpen_any h ht s n K hn hs hK hv)
  have hL : L ≤ 4096 := by obtain ⟨ls, exe, per, cs, lsC, hdc, hnt⟩ := h; exact hdc.hL
  have hmm1 : ∀ W, (Instr.makeMap 98 none).run Tryz.prog W = .ok (.map (some W.heap.size)) (W.alloc (.map #[] 0)) := fun _ => rfl
  have hmm2 : ∀ W, (Instr.makeMap 147 none).run Tryz.prog W = .ok (.map (some W.heap.size)) (W.alloc (.map #[] 0)) := fun _ => rfl
  have hK2 : K ≤ 128 := by omega
  clear h ht hv hK hn hs
  unfold memV at HA
  unfold memV
  go_enter Tryz.func117, Tryz.ntmps117
  go_wp2_with (first
    | (go_at_call 179; refine HA.out.mono ?_; rintro e w1 ⟨rfl, hset, hb1⟩; have HS1 := Lib.hid hset; have HB1 := Lib.hid hb1; have HL := Lib.hid (lines_any HS1.out hK2); clear hset hb1)
    | (go_at_call 170; refine HL.out.mono ?_; rintro e w2 ⟨A, m, c, l, rfl, hm, ho, hb2⟩; have HO := Lib.hid (Reads.of_own ho); have HS2 := Lib.hid (HS1.out.below hb2); have HB2 := Lib.hid (HB1.out.trans (hb2.mono HB1.out.size)); clear ho hb2)
    | go_in)
  have HW := Lib.hid (fun x => owner_any HS2.out hK2 x)
  clear HA HL HS1 HB1 HS2
  go_loopw [28] (fun i wr => ∃ (k : Nat), k ≤ m ∧ i = .int .i64 k ∧ w2 = wr) (fun i _ => m - (intOf i).toNat)
  case atStart => exact ⟨0, Nat.zero_le _, rfl, rfl⟩
  case round =>
    obtain ⟨k, hk, rfl, rfl⟩ := hrel
    by_cases hlt : k < m
    · obtain ⟨b, off, x, hA, hbB, f0⟩ := i_facts HO.out hlt
      subst hA
      have hz5 : (0 : Int) ≤ (k : Int) := by omega
      have hz6 : (k : Int) < (m : Int) := by omega
      go_wp2_with (first
        | (go_at_call 180; refine (HW.out _).mono ?_; rintro e w3 ⟨rfl, rfl⟩)
        | go_in)
      go_roundw
      case rel =>
        first
          | exact ⟨k + 1, by omega, by go_num, trivial⟩
          | exact ⟨k + 1, by omega, by go_num, rfl⟩
          | (repeat apply Exists.intro
             refine ⟨?_, rfl⟩
             exact ⟨k + 1, by omega, by go_num, rfl⟩)
      case measure => simp [intOf]; omega
    · obtain rfl : m = k := by omega
      go_wp2
      go_ret2
      have e9 : ((w2.alloc (.map #[] 0)).alloc (.map #[] 0)).heap.size = w2.heap.size + 1 + 1 := by simp
      refine ⟨w2.heap.size + 1 + 1, w.heap.size, w2.heap.size, w2.heap.size + 1, rfl, by rw [← e9]; exact Blk.new _ _ _, ?_, ?_⟩
      · have := HB2.out.size; simp; omega
      · exact (((HB2.out.alloc HB2.out.size _).alloc (by have := HB2.out.size; simp; omega) _).alloc (by have := HB2.out.size; simp; omega) _)
end Go.Proofs.YtklpeghhgoeeiaaGreatDoor
/- device.Thread, tx.New, the statement's own open. -/
namespace Go.Proofs.YtklpeghhgoeeiaaGreatDoor
open Go.RowKit
set_option maxRecDepth 100000 in
set_option maxHeartbeats 4000000 in
theorem thread_any {a : DA} {L T : Nat} {w : World} {S : Fp} {cur : Nat → Nat} {F : Nat} (h : Dev a L T w S cur F) :
    Calls Tryz.prog 18 #[.pointer (some ⟨a.d, 0, none⟩), .int .i64 0] w fun e w' => e = .returned (.pointer (some ⟨a.th 0, 0, none⟩)) ∧ w = w' := by
  obtain ⟨ls, exe, per, cs, lsC, hdc, hnt⟩ := h
  have f3 : w.cell? ⟨a.d, 3, none⟩ = some (.pointer (some ⟨a.th 0, 0, none⟩)) := hdc.dev.cell 3
  clear hdc hnt
  go_enter Tryz.func18, Tryz.ntmps18
  go_wp2
  go_ret
  exact ⟨rfl, rfl⟩
def mgrCells (th r u h : Option Addr) (last : Option Addr) : Array Value := #[.pointer th, .pointer r, .pointer u, .pointer h, .pointer last]
set_option maxRecDepth 100000 in
set_option maxHeartbeats 4000000 in
theorem txNew_any (th r u h : Option Addr) (w : World) :
    Calls Tryz.prog 28 #[.pointer th, .pointer r, .pointer u, .pointer h] w fun e w' => e = .returned (.pointer (some ⟨w.heap.size, 0, none⟩)) ∧ w' = w.alloc (.cells (mgrCells th r u h none) 94) := by
  go_enter Tryz.func28, Tryz.ntmps28
  go_wp2
  go_ret
  exact ⟨rfl, rfl⟩
/-- Where the parts over a device lie. -/
structure SA where
  r : Nat
  u : Nat
  h : Nat
  gs : Nat
  mr : Nat
  mh : Nat
  m : Nat
/-- The logs, the heap and the manager. -/
structure Sys (a : DA) (w : World) (x : SA) (lk : Bool) (last : Option Addr) : Prop where
  r : Blk w x.r 246 (logCells a 4 26)
  u : Blk w x.u 186 (ulogCells a 30 26)
  h : Blk w x.h 150 (heapCells a 56 96 x.gs x.mr x.mh lk)
  m : Blk w x.m 94 (mgrCells (some ⟨a.th 0, 0, none⟩) (some ⟨x.r, 0, none⟩) (some ⟨x.u, 0, none⟩) (some ⟨x.h, 0, none⟩) last)
/-- The words of an opened pool. -/
structure Pool (cur : Nat → Nat) : Prop where
  r : cur 32 = 0
  u : cur 240 = 0
  c : ∀ k, k < 3 → cur (8 * (56 + 32 * k)) = freeW 1
def wCells (a : DA) (x : SA) (cs : Array Value) : Prop := cs.size = 77 ∧ cs[0]? = some (.pointer (some ⟨a.d, 0, none⟩)) ∧ cs[1]? = some (.pointer (some ⟨x.h, 0, none⟩)) ∧ cs[2]? = some (.pointer (some ⟨x.m, 0, none⟩))
def RetOpen (a : DA) (w : World) (e : Ending) (w' : World) : Prop := ∃ g x cs, e = .returned (.pointer (some ⟨g, 0, none⟩)) ∧ Sys a w' x false none ∧ Blk w' g 45 cs ∧ wCells a x cs ∧ w.heap.size ≤ g ∧ (w.heap.size ≤ x.r ∧ w.heap.size ≤ x.u ∧ w.heap.size ≤ x.h ∧ w.heap.size ≤ x.m) ∧ Below w.heap.size w w'
set_option maxRecDepth 100000 in
set_option maxHeartbeats 4000000 in
theorem open_any {a : DA} {T : Nat} {w : World} {S : Fp} {cur : Nat → Nat} {F : Nat} (h : Dev a 152 T w S cur F) (ht : Tab w) (hp : Pool cur) :
    Calls Tryz.prog 46 #[.pointer (some ⟨a.d, 0, none⟩)] w (RetOpen a w) := by
  have HD := Lib.hid h
  have HT := Lib.hid ht
  have HP := Lib.hid hp
  have HTh := Lib.hid (thread_any h)
  have HRo := Lib.hid (redoOpen_any h 4 26 (by omega) (by omega))
  have hb1 : Below w.heap.size w (w.alloc (.cells (logCells a 4 26) 246)) := (Below.refl _ _).alloc (Nat.le_refl _) _
  have HUo := Lib.hid (undoOpen_any (h.below hb1) 30 26 (by omega) (by omega))
  have hb2 : Below w.heap.size w ((w.alloc (.cells (logCells a 4 26) 246)).alloc (.cells (ulogCells a 30 26) 186)) := hb1.alloc hb1.size _
  have HB2 := Lib.hid hb2
  have HBr := Lib.hid ((Blk.new w 246 (logCells a 4 26)).alloc (.cells (ulogCells a 30 26) 186))
  have HBu := Lib.hid (Blk.new (w.alloc (.cells (logCells a 4 26) 246)) 186 (ulogCells a 30 26))
  have hsz : (w.alloc (.cells (logCells a 4 26) 246)).heap.size = w.heap.size + 1 := by simp
  rw [hsz] at HUo HBu
  have HRr := Lib.hid (redoRecover_idle (h.below hb2) w.heap.size 4 26 HBr.out (by omega) HP.out.r)
  have HL2 : Hid (w.heap.size + 2 ≤ ((w.alloc (.cells (logCells a 4 26) 246)).alloc (.cells (ulogCells a 30 26) 186)).heap.size) := Lib.hid (by simp)
  clear h ht hp hb1 hb2 hsz
  unfold memV at *
  go_enter Tryz.func46, Tryz.ntmps46
  go_wp2_with (first
    | (go_at_call 18; refine HTh.out.mono ?_; rintro e w1 ⟨rfl, rfl⟩)
    | (go_at_call 113; refine HRo.out.mono ?_; rintro e w1 ⟨rfl, rfl⟩)
    | fail)
  refine HUo.out.mono ?_
  rintro e w1 ⟨rfl, rfl⟩
  generalize (w.alloc (.cells (logCells a 4 26) 246)).alloc (.cells (ulogCells a 30 26) 186) = W at *
  clear HRo HUo HTh
  go_wp2_with fail
  refine HRr.out.mono ?_
  rintro e W1 ⟨rfl, hb1⟩
  have HB3 := Lib.hid (HB2.out.trans (hb1.mono HB2.out.size))
  have HBr3 := Lib.hid (HBr.out.below hb1 HBr.out.lt)
  have HBu3 := Lib.hid (HBu.out.below hb1 HBu.out.lt)
  have HL3 := Lib.hid (Nat.le_trans HL2.out hb1.size)
  have HUr := Lib.hid (undoRecover_none (HD.out.below HB3.out) (w.heap.size + 1) 30 26 HBu3.out (by omega) (by omega) (by omega) HP.out.u)
  clear HRr hb1 HBr HBu HB2 HL2
  unfold memV at HUr
  go_wp2_with fail
  refine HUr.out.mono ?_
  rintro e W2 ⟨rfl, hb1⟩
  have HB4 := Lib.hid (HB3.out.trans (hb1.mono HB3.out.size))
  have HBr4 := Lib.hid (HBr3.out.below hb1 HBr3.out.lt)
  have HBu4 := Lib.hid (HBu3.out.below hb1 HBu3.out.lt)
  have HL4 := Lib.hid (Nat.le_trans HL3.out hb1.size)
  have HHo := Lib.hid (heapOpen_any (HD.out.below HB4.out) (HT.out.below HB4.out) 56 96 3 (by omega) (by omega) (by omega) HP.out.c)
  clear HUr hb1 HBr3 HBu3 HB3 HL3
  unfold memV at HHo
  go_wp2_with fail
  refine HHo.out.mono ?_
  rintro e W3 ⟨gh, gs, mr, mh, rfl, hbh, hgh, hb1⟩
  have HB5 := Lib.hid (HB4.out.trans (hb1.mono HB4.out.size))
  have HBr5 := Lib.hid (HBr4.out.below hb1 HBr4.out.lt)
  have HBu5 := Lib.hid (HBu4.out.below hb1 HBu4.out.lt)
  have HBh5 := Lib.hid hbh
  have HL5 := Lib.hid (Nat.le_trans HL4.out hb1.size)
  have HG5 := Lib.hid (Nat.le_trans HL4.out hgh)
  have HTN := Lib.hid (txNew_any (some ⟨a.th 0, 0, none⟩) (some ⟨w.heap.size, 0, none⟩) (some ⟨w.heap.size + 1, 0, none⟩) (some ⟨gh, 0, none⟩) W3)
  clear HHo hb1 HBr4 HBu4 HB4 HL4 hbh hgh HD HT HP
  go_wp2_with fail
  refine HTN.out.mono ?_
  rintro e W4 ⟨rfl, rfl⟩
  clear HTN
  have HBm6 := Lib.hid (Blk.new W3 94 (mgrCells (some ⟨a.th 0, 0, none⟩) (some ⟨w.heap.size, 0, none⟩) (some ⟨w.heap.size + 1, 0, none⟩) (some ⟨gh, 0, none⟩) none))
  have HB6 := Lib.hid (HB5.out.alloc HB5.out.size (.cells (mgrCells (some ⟨a.th 0, 0, none⟩) (some ⟨w.heap.size, 0, none⟩) (some ⟨w.heap.size + 1, 0, none⟩) (some ⟨gh, 0, none⟩) none) 94))
  have HBr6 := Lib.hid (HBr5.out.alloc (.cells (mgrCells (some ⟨a.th 0, 0, none⟩) (some ⟨w.heap.size, 0, none⟩) (some ⟨w.heap.size + 1, 0, none⟩) (some ⟨gh, 0, none⟩) none) 94))
  have HBu6 := Lib.hid (HBu5.out.alloc (.cells (mgrCells (some ⟨a.th 0, 0, none⟩) (some ⟨w.heap.size, 0, none⟩) (some ⟨w.heap.size + 1, 0, none⟩) (some ⟨gh, 0, none⟩) none) 94))
  have HBh6 := Lib.hid (HBh5.out.alloc (.cells (mgrCells (some ⟨a.th 0, 0, none⟩) (some ⟨w.heap.size, 0, none⟩) (some ⟨w.heap.size + 1, 0, none⟩) (some ⟨gh, 0, none⟩) none) 94))
  generalize W3.alloc (.cells (mgrCells (some ⟨a.th 0, 0, none⟩) (some ⟨w.heap.size, 0, none⟩) (some ⟨w.heap.size + 1, 0, none⟩) (some ⟨gh, 0, none⟩) none) 94) = W5 at *
  clear HB5 HBr5 HBu5 HBh5
  go_wp2
  go_ret
  have := HL5.out
  have := HG5.out
  refine ⟨_, ⟨w.heap.size, w.heap.size + 1, gh, gs, mr, mh, W3.heap.size⟩, _, rfl, ⟨HBr6.out.alloc _, HBu6.out.alloc _, HBh6.out.alloc _, HBm6.out.alloc _⟩, Blk.new _ _ _, ⟨rfl, rfl, rfl, rfl⟩, HB6.out.size, ⟨by simp, by simp, by simp; omega, by simp; omega⟩, HB6.out.alloc HB6.out.size _⟩
end Go.Proofs.YtklpeghhgoeeiaaGreatDoor
