/- The walks and laws that the claim leans on, part 5: each part says ahead of its lines what it holds. -/
import Derived.Test.YtklpeghhgoeeiaaGreatDoorKad
import Derived.Deep.CutBlock
import Derived.Deep.QuietTactic
import Derived.BigQuiet
/- slices.Sort of at most twelve words: the row is permuted. -/
namespace Go.Proofs.YtklpeghhgoeeiaaGreatDoor
open Go.RowKit
/-- A row of words. -/
def RowU (cs : Array Value) (xs : List Nat) : Prop := xs.length ≤ cs.size ∧ ∀ i (h : i < xs.length), cs[i]? = some (.int .u64 ((xs[i] : Nat) : Int))
theorem RowU.set {cs : Array Value} {xs : List Nat} (h : RowU cs xs) (j x : Nat) (hj : j < xs.length) : RowU (cs.setIfInBounds j (.int .u64 (x : Int))) (xs.set j x) := by
  refine ⟨by simpa using h.1, fun i hi => ?_⟩
  rw [List.length_set] at hi
  rw [set_at i (by have := h.1; omega), List.getElem_set]
  by_cases hij : i = j
  · rw [if_pos hij, if_pos hij.symm]
  · rw [if_neg hij, if_neg (fun e => hij e.symm)]; exact h.2 i hi
/-- While a row is sorted. -/
def SortI (w wr : World) (g : Nat) (xs : List Nat) (sz : Nat) : Prop := ∃ cs ys, Blk wr g 35 cs ∧ cs.size = sz ∧ RowU cs ys ∧ ys.Perm xs ∧ Chg (fun k => k = g) w wr
def RetSort (w : World) (g : Nat) (xs : List Nat) (sz : Nat) (e : Ending) (w' : World) : Prop := e = .returned (.tuple #[]) ∧ SortI w w' g xs sz
set_option maxRecDepth 100000 in
set_option maxHeartbeats 8000000 in
theorem insertion_any (g n cap sz : Nat) (xs : List Nat) (w : World) (h : SortI w w g xs sz) (hl : xs.length = n) (hn : n ≤ 1000000) (hc : n ≤ cap) (hcm : cap ≤ 9223372036854775807) :
    Calls Tryz.prog 220 #[.slice (some ⟨g, 0, none⟩) n cap, .int .i64 0, .int .i64 (n : Int)] w (RetSort w g xs sz) := by
  have H0 := Lib.hid h
  have HL := Lib.hid hl
  clear h hl
  go_enter Tryz.func220, Tryz.ntmps220
  go_wp2
  go_loopw [6] (fun i wr => ∃ (k : Nat), 1 ≤ k ∧ k ≤ n + 1 ∧ i = .int .i64 k ∧ Hid (SortI w wr g xs sz)) (fun i _ => n + 1 - (intOf i).toNat)
  case atStart => exact ⟨1, by omega, by omega, rfl, H0⟩
  case round =>
    clear H0
    obtain ⟨k, hk1, hk, rfl, H⟩ := hrel
    by_cases hlt : k < n
    · go_wp2
      go_loopw [7] (fun j wr => ∃ (q : Nat), q ≤ k ∧ j = .int .i64 q ∧ Hid (SortI w wr g xs sz)) (fun j _ => (intOf j).toNat)
      case atStart => exact ⟨k, Nat.le_refl _, rfl, H⟩
      case round =>
        clear H
        obtain ⟨q, hq, rfl, H⟩ := hrel
        by_cases hq0 : q = 0
        · subst hq0
          have HB := H.out
          have H1 : Hid (SortI w wr.drew g xs sz) := by
            obtain ⟨cs, ys, h1, h2, h3, h4, h5⟩ := H.out
            exact ⟨cs, ys, h1, h2, h3, h4, h5.drew⟩
          clear HB H
          go_wp2
          refine wp_region_script (fun w' => w' = wr.drew) 14 [(true, 0), (true, 1), (true, 2), (true, 3), (true, 4), (true, 5), (true, 6), (true, 7), (true, 8), (true, 9), (true, 10), (true, 11), (true, 12), (false, 13)] (by kernel_rfl) (by kernel_rfl) rfl ?_
          refine wpScript_take (.int .i64 0) (by rfl) (by rfl) (fun w' hS => ?_) ?_
          · go_simp
          simp only [List.getElem_toArray, List.getElem_cons_zero, Act.put, List.setIfInBounds_toArray, List.set_cons_zero, List.set_cons_succ]
          refine wpScript_take (.int .i64 0) (by rfl) (by rfl) (fun w' hS => ?_) ?_
          · go_simp
          simp only [List.getElem_toArray, List.getElem_cons_zero, List.getElem_cons_succ, Act.put, List.setIfInBounds_toArray, List.set_cons_zero, List.set_cons_succ]
          refine wpScript_take (.bool false) (by rfl) (by rfl) (fun w' hS => ?_) ?_
          · go_simp
          simp only [List.getElem_toArray, List.getElem_cons_zero, List.getElem_cons_succ, Act.put, List.setIfInBounds_toArray, List.set_cons_zero, List.set_cons_succ]
          refine wpScript_take (.bool false) (by rfl) (by rfl) (fun w' hS => ?_) ?_
          · go_simp
          simp only [List.getElem_toArray, List.getElem_cons_zero, List.getElem_cons_succ, Act.put, List.setIfInBounds_toArray, List.set_cons_zero, List.set_cons_succ]
          refine wpScript_skip (by rfl) (by rfl) ?_
          simp only [List.getElem_toArray, List.getElem_cons_zero, List.getElem_cons_succ, Act.put, List.setIfInBounds_toArray, List.set_cons_zero, List.set_cons_succ]
          refine wpScript_skip (by rfl) (by rfl) ?_
          simp only [List.getElem_toArray, List.getElem_cons_zero, List.getElem_cons_succ, Act.put, List.setIfInBounds_toArray, List.set_cons_zero, List.set_cons_succ]
          refine wpScript_skip (by rfl) (by rfl) ?_
          simp only [List.getElem_toArray, List.getElem_cons_zero, List.getElem_cons_succ, Act.put, List.setIfInBounds_toArray, List.set_cons_zero, List.set_cons_succ]
          refine wpScript_skip (by rfl) (by rfl) ?_
          simp only [List.getElem_toArray, List.getElem_cons_zero, List.getElem_cons_succ, Act.put, List.setIfInBounds_toArray, List.set_cons_zero, List.set_cons_succ]
          refine wpScript_skip (by rfl) (by rfl) ?_
          simp only [List.getElem_toArray, List.getElem_cons_zero, List.getElem_cons_succ, Act.put, List.setIfInBounds_toArray, List.set_cons_zero, List.set_cons_succ]
          refine wpScript_skip (by rfl) (by rfl) ?_
          simp only [List.getElem_toArray, List.getElem_cons_zero, List.getElem_cons_succ, Act.put, List.setIfInBounds_toArray, List.set_cons_zero, List.set_cons_succ]
          refine wpScript_skip (by rfl) (by rfl) ?_
          simp only [List.getElem_toArray, List.getElem_cons_zero, List.getElem_cons_succ, Act.put, List.setIfInBounds_toArray, List.set_cons_zero, List.set_cons_succ]
          refine wpScript_skip (by rfl) (by rfl) ?_
          simp only [List.getElem_toArray, List.getElem_cons_zero, List.getElem_cons_succ, Act.put, List.setIfInBounds_toArray, List.set_cons_zero, List.set_cons_succ]
          refine wpScript_skip (by rfl) (by rfl) ?_
          simp only [List.getElem_toArray, List.getElem_cons_zero, List.getElem_cons_succ, Act.put, List.setIfInBounds_toArray, List.set_cons_zero, List.set_cons_succ]
          refine wpScript_do (by rfl) ?_
          go_wp2_with fail
          refine ⟨rfl, ?_⟩
          show wpList _ _ _ _ _ _
          simp only [List.drop_succ_cons, List.drop_zero]
          go_wp2_with fail
          refine NoPanic.normal ?_
          go_wp2
          go_roundw
          case rel => exact ⟨k + 1, by omega, by omega, by go_num, H1⟩
          case measure => simp [intOf]; omega
        · obtain ⟨q', rfl⟩ : ∃ q', q = q' + 1 := ⟨q - 1, by omega⟩
          obtain ⟨cs, ys, h1, h2, h3, h4, h5⟩ := H.out
          have hyl : ys.length = n := by rw [h4.length_eq]; exact HL.out
          have i1 : q' + 1 < ys.length := by omega
          have i0 : q' < ys.length := by omega
          have c1 : wr.cell? ⟨g, q' + 1, none⟩ = some (.int .u64 ((ys[q' + 1] : Nat) : Int)) := by rw [h1.cell]; exact h3.2 _ i1
          have c0 : wr.cell? ⟨g, q', none⟩ = some (.int .u64 ((ys[q'] : Nat) : Int)) := by rw [h1.cell]; exact h3.2 _ i0
          have HP := Lib.hid (List.set_set_perm i1 i0)
          have HRW := Lib.hid ((h3.set (q' + 1) ys[q'] i1).set q' ys[q' + 1] (by rw [List.length_set]; exact i0))
          have z1 := h1.frozen (q' + 1)
          have z0 := h1.frozen q'
          have HBk := Lib.hid h1
          have HSz := Lib.hid h2
          have HPm := Lib.hid h4
          have HCh := Lib.hid h5
          have HRo := Lib.hid h3
          generalize hx1 : ys[q' + 1] = x1 at *
          generalize hx0 : ys[q'] = x0 at *
          clear hx1 hx0 h1 h2 h3 h4 h5 H
          have e1 : (0 : Int) < (q' : Int) + 1 := by omega
          have e2 : (q' : Int) + 1 < (n : Int) := by omega
          have e3 : (q' : Int) < (n : Int) := by omega
          have e4 : (0 : Int) ≤ (q' : Int) := by omega
          have e5 : decide ((0 : Int) < (q' : Int) + 1) = true := decide_eq_true (by omega)
          have e6 : ((q' : Int) + 1).toNat = q' + 1 := by omega
          have e7 : ¬ ((q' : Int) + 1 < 0) := by omega
          have e8 : IntKind.i64.wrap (q' : Int) = (q' : Int) := by rw [IntKind.wrap_i64]; omega
          have e9 : (0 : Int) ≤ (q' : Int) + 1 := by omega
          go_wp2
          refine wp_region_script (fun w' => w' = wr.drew) 14 [(true, 0), (true, 1), (true, 2), (true, 3), (true, 4), (true, 5), (true, 6), (true, 7), (true, 8), (true, 9), (true, 10), (true, 11), (true, 12), (false, 13)] (by kernel_rfl) (by kernel_rfl) rfl ?_
          refine wpScript_take (.int .i64 ((q' : Int) + 1)) (by rfl) (by rfl) (fun w' hS => ?_) ?_
          · go_simp
          simp only [List.getElem_toArray, List.getElem_cons_zero, Act.put, List.setIfInBounds_toArray, List.set_cons_zero, List.set_cons_succ]
          refine wpScript_take (.int .i64 0) (by rfl) (by rfl) (fun w' hS => ?_) ?_
          · go_simp
          simp only [List.getElem_toArray, List.getElem_cons_zero, List.getElem_cons_succ, Act.put, List.setIfInBounds_toArray, List.set_cons_zero, List.set_cons_succ]
          refine wpScript_take (.bool true) (by rfl) (by rfl) (fun w' hS => ?_) ?_
          · go_simp
          simp only [List.getElem_toArray, List.getElem_cons_zero, List.getElem_cons_succ, Act.put, List.setIfInBounds_toArray, List.set_cons_zero, List.set_cons_succ]
          refine wpScript_take (.bool true) (by rfl) (by rfl) (fun w' hS => ?_) ?_
          · go_simp
          simp only [List.getElem_toArray, List.getElem_cons_zero, List.getElem_cons_succ, Act.put, List.setIfInBounds_toArray, List.set_cons_zero, List.set_cons_succ]
          refine wpScript_take (.slice (some ⟨g, 0, none⟩) n cap) (by rfl) (by rfl) (fun w' hS => ?_) ?_
          · go_simp
          simp only [List.getElem_toArray, List.getElem_cons_zero, List.getElem_cons_succ, Act.put, List.setIfInBounds_toArray, List.set_cons_zero, List.set_cons_succ]
          refine wpScript_take (.int .i64 ((q' : Int) + 1)) (by rfl) (by rfl) (fun w' hS => ?_) ?_
          · go_simp
          simp only [List.getElem_toArray, List.getElem_cons_zero, List.getElem_cons_succ, Act.put, List.setIfInBounds_toArray, List.set_cons_zero, List.set_cons_succ]
          refine wpScript_take (.pointer (some ⟨g, q' + 1, none⟩)) (by rfl) (by rfl) (fun w' hS => ?_) ?_
          · go_simp
          simp only [List.getElem_toArray, List.getElem_cons_zero, List.getElem_cons_succ, Act.put, List.setIfInBounds_toArray, List.set_cons_zero, List.set_cons_succ]
          refine wpScript_take (.int .u64 (x1 : Int)) (by rfl) (by rfl) (fun w' hS => ?_) ?_
          · subst hS
            go_simp
          simp only [List.getElem_toArray, List.getElem_cons_zero, List.getElem_cons_succ, Act.put, List.setIfInBounds_toArray, List.set_cons_zero, List.set_cons_succ]
          refine wpScript_take (.slice (some ⟨g, 0, none⟩) n cap) (by rfl) (by rfl) (fun w' hS => ?_) ?_
          · go_simp
          simp only [List.getElem_toArray, List.getElem_cons_zero, List.getElem_cons_succ, Act.put, List.setIfInBounds_toArray, List.set_cons_zero, List.set_cons_succ]
          refine wpScript_take (.int .i64 ((q' : Int) + 1)) (by rfl) (by rfl) (fun w' hS => ?_) ?_
          · go_simp
          simp only [List.getElem_toArray, List.getElem_cons_zero, List.getElem_cons_succ, Act.put, List.setIfInBounds_toArray, List.set_cons_zero, List.set_cons_succ]
          refine wpScript_take (.int .i64 (q' : Int)) (by rfl) (by rfl) (fun w' hS => ?_) ?_
          · go_simp
          simp only [List.getElem_toArray, List.getElem_cons_zero, List.getElem_cons_succ, Act.put, List.setIfInBounds_toArray, List.set_cons_zero, List.set_cons_succ]
          refine wpScript_take (.pointer (some ⟨g, q', none⟩)) (by rfl) (by rfl) (fun w' hS => ?_) ?_
          · go_simp
          simp only [List.getElem_toArray, List.getElem_cons_zero, List.getElem_cons_succ, Act.put, List.setIfInBounds_toArray, List.set_cons_zero, List.set_cons_succ]
          refine wpScript_take (.int .u64 (x0 : Int)) (by rfl) (by rfl) (fun w' hS => ?_) ?_
          · subst hS
            go_simp
          simp only [List.getElem_toArray, List.getElem_cons_zero, List.getElem_cons_succ, Act.put, List.setIfInBounds_toArray, List.set_cons_zero, List.set_cons_succ]
          refine wpScript_do (by rfl) ?_
          go_wp2
          refine ⟨rfl, ?_⟩
          show wpList _ _ _ _ _ _
          simp only [List.drop_succ_cons, List.drop_zero]
          by_cases hx : x1 < x0
          · have t1 : decide ((x1 : Int) < (x0 : Int)) = true := decide_eq_true (by omega)
            have t2 : decide (x1 < x0) = true := decide_eq_true hx
            go_wp2_with fail
            refine NoPanic.normal ?_
            clear e5 t1 t2
            go_wp2
            have H1 : Hid (SortI w ((wr.setCell ⟨g, q' + 1, none⟩ (.int .u64 (x0 : Int))).setCell ⟨g, q', none⟩ (.int .u64 (x1 : Int))).drew.drew g xs sz) :=
              ⟨(cs.setIfInBounds (q' + 1) (.int .u64 (x0 : Int))).setIfInBounds q' (.int .u64 (x1 : Int)), (ys.set (q' + 1) x0).set q' x1, (HBk.out.set_ (q' + 1) _).set_ q' _, by have := HSz.out; simpa using this, HRW.out, HP.out.trans HPm.out, ((HCh.out.setCell (p := ⟨g, q' + 1, none⟩) (.inl rfl) _).setCell (p := ⟨g, q', none⟩) (.inl rfl) _).drew.drew⟩
            go_region
            go_wp2
            exact ⟨⟨q', by omega, rfl, H1⟩, by simp [intOf]⟩
          · have t1 : decide ((x1 : Int) < (x0 : Int)) = false := decide_eq_false (by omega)
            have t2 : decide (x1 < x0) = false := decide_eq_false hx
            have H1 : Hid (SortI w wr.drew g xs sz) := ⟨cs, ys, HBk.out, HSz.out, HRo.out, HPm.out, HCh.out.drew⟩
            go_wp2_with fail
            refine NoPanic.normal ?_
            go_wp2
            go_roundw
            case rel => exact ⟨k + 1, by omega, by omega, by go_num, H1⟩
            case measure => simp [intOf]; omega
    · go_wp2
      go_end0
      exact ⟨rfl, H.out⟩
set_option maxRecDepth 100000 in
set_option maxHeartbeats 4000000 in
theorem pdq_small (g n cap sz : Nat) (lim : Int) (xs : List Nat) (w : World) (h : SortI w w g xs sz) (hl : xs.length = n) (hn : n ≤ 12) (hc : n ≤ cap) (hcm : cap ≤ 9223372036854775807) :
    Calls Tryz.prog 184 #[.slice (some ⟨g, 0, none⟩) n cap, .int .i64 0, .int .i64 (n : Int), .int .i64 lim] w (RetSort w g xs sz) := by
  have HI := Lib.hid (insertion_any g n cap sz xs w h hl (by omega) hc hcm)
  have e1 : decide ((n : Int) ≤ 12) = true := decide_eq_true (by omega)
  have e2 : decide (n ≤ 12) = true := decide_eq_true hn
  clear h hl
  go_enter Tryz.func184, Tryz.ntmps184
  go_wp2
  refine wp_loop_rounds 1 ?_
  rw [rounds_succ]
  go_wp2_with fail
  refine HI.out.mono ?_
  rintro e w1 ⟨rfl, h1⟩
  have H1 := Lib.hid h1
  clear h1
  go_wp2
  go_end0
  exact ⟨rfl, H1.out⟩
end Go.Proofs.YtklpeghhgoeeiaaGreatDoor
/- slices.pdqsortOrdered at words: its parts permute the row. -/
namespace Go.Proofs.YtklpeghhgoeeiaaGreatDoor
open Go.RowKit
section
variable {w wr : World} {g sz : Nat} {xs : List Nat}
theorem SortI.drew (h : SortI w wr g xs sz) : SortI w wr.drew g xs sz := by
  obtain ⟨cs, ys, h1, h2, h3, h4, h5⟩ := h
  exact ⟨cs, ys, h1, h2, h3, h4, h5.drew⟩
theorem SortI.at_ (h : SortI w wr g xs sz) {i : Nat} (hi : i < xs.length) : ∃ x : Nat, wr.cell? ⟨g, i, none⟩ = some (.int .u64 (x : Int)) ∧ wr.frozen? ⟨g, i, none⟩ = false := by
  obtain ⟨cs, ys, h1, h2, h3, h4, h5⟩ := h
  have hyl : i < ys.length := by rw [h4.length_eq]; exact hi
  exact ⟨ys[i], by rw [h1.cell]; exact h3.2 _ hyl, h1.frozen i⟩
theorem SortI.swap (h : SortI w wr g xs sz) {i j x y : Nat} (hi : i < xs.length) (hj : j < xs.length) (hx : wr.cell? ⟨g, i, none⟩ = some (.int .u64 (x : Int))) (hy : wr.cell? ⟨g, j, none⟩ = some (.int .u64 (y : Int))) :
    SortI w ((wr.setCell ⟨g, i, none⟩ (.int .u64 (y : Int))).setCell ⟨g, j, none⟩ (.int .u64 (x : Int))) g xs sz := by
  obtain ⟨cs, ys, h1, h2, h3, h4, h5⟩ := h
  have i1 : i < ys.length := by rw [h4.length_eq]; exact hi
  have j1 : j < ys.length := by rw [h4.length_eq]; exact hj
  have ex : ys[i] = x := by
    rw [h1.cell, h3.2 _ i1] at hx
    simp at hx; omega
  have ey : ys[j] = y := by
    rw [h1.cell, h3.2 _ j1] at hy
    simp at hy; omega
  subst ex; subst ey
  exact ⟨_, _, (h1.set_ i _).set_ j _, by simpa using h2, (h3.set i _ i1).set j _ (by rw [List.length_set]; exact j1), (List.set_set_perm i1 j1).trans h4, (h5.setCell (p := ⟨g, i, none⟩) (.inl rfl) _).setCell (p := ⟨g, j, none⟩) (.inl rfl) _⟩
theorem SortI.mid (h : SortI w wr g xs sz) {i j : Nat} (hj : j < xs.length) (u : Value) : ∃ v, (wr.setCell ⟨g, i, none⟩ u).cell? ⟨g, j, none⟩ = some v := by
  obtain ⟨cs, ys, h1, h2, h3, h4, h5⟩ := h
  have j1 : j < ys.length := by rw [h4.length_eq]; exact hj
  have h := (h1.set_ i u).cell j
  have hs : j < (cs.setIfInBounds i u).size := by have := h3.1; simp; omega
  exact ⟨_, h.trans (Array.getElem?_eq_getElem hs)⟩
theorem SortI.drewN (h : SortI w wr g xs sz) (n : Nat) : SortI w (wr.drewN n) g xs sz := by
  obtain ⟨cs, ys, h1, h2, h3, h4, h5⟩ := h
  exact ⟨cs, ys, h1, h2, h3, h4, h5.drewN n⟩
end
set_option maxRecDepth 100000 in
theorem less_any (x y : Nat) (w : World) : Calls Tryz.prog 226 #[.int .u64 (x : Int), .int .u64 (y : Int)] w fun e w' => e = .returned (.bool (decide (x < y))) ∧ w' = w := by
  go_enter Tryz.func226, Tryz.ntmps226
  go_wp2
  all_goals (go_ret; exact ⟨rfl, rfl⟩)
theorem less_some (x y : Nat) : ∃ bb, Hid (∀ W : World, Calls Tryz.prog 226 #[.int .u64 (x : Int), .int .u64 (y : Int)] W fun e w' => e = .returned (.bool bb) ∧ w' = W) := ⟨_, fun W => less_any x y W⟩
/-- A place was found. -/
def RetMid (w : World) (g : Nat) (xs : List Nat) (sz a b : Nat) (e : Ending) (w' : World) : Prop := ∃ m : Nat, e = .returned (.int .i64 (m : Int)) ∧ a ≤ m ∧ m ≤ b ∧ SortI w w' g xs sz
def RetPart (w : World) (g : Nat) (xs : List Nat) (sz a b : Nat) (e : Ending) (w' : World) : Prop := ∃ (m : Nat) (c : Bool), e = .returned (.tuple #[.int .i64 (m : Int), .bool c]) ∧ a ≤ m ∧ m < b ∧ SortI w w' g xs sz
set_option maxRecDepth 100000 in
set_option maxHeartbeats 8000000 in
theorem reverse_any (g n cap sz a b : Nat) (xs : List Nat) (w : World) (h : SortI w w g xs sz) (hl : xs.length = n) (hab : a < b) (hb : b ≤ n) (hn : n ≤ 1000000) (hc : n ≤ cap) (hcm : cap ≤ 9223372036854775807) :
    Calls Tryz.prog 224 #[.slice (some ⟨g, 0, none⟩) n cap, .int .i64 (a : Int), .int .i64 (b : Int)] w (RetSort w g xs sz) := by
  have H := Lib.hid h
  have HL := Lib.hid hl
  clear h hl
  obtain ⟨b', rfl⟩ : ∃ b', b = b' + 1 := ⟨b - 1, by omega⟩
  have u1 : IntKind.i64.wrap (b' : Int) = (b' : Int) := by rw [IntKind.wrap_i64]; omega
  go_enter Tryz.func224, Tryz.ntmps224
  go_wp2
  go_loopw [6, 7] (fun i j wr => ∃ (p q : Nat), p ≤ b' + 1 ∧ q ≤ b' ∧ i = .int .i64 p ∧ j = .int .i64 q ∧ Hid (SortI w wr g xs sz)) (fun _ j _ => (intOf j).toNat)
  case atStart => exact ⟨a, b', by omega, by omega, rfl, by go_num, H⟩
  case round =>
    clear H
    obtain ⟨p, q, hp, hq, rfl, rfl, H⟩ := hrel
    by_cases hlt : p < q
    · have e1 : (p : Int) < (n : Int) := by omega
      have e2 : (q : Int) < (n : Int) := by omega
      obtain ⟨x1, c1, z1⟩ := H.out.at_ (i := p) (by have := HL.out; omega)
      obtain ⟨x2, c2, z2⟩ := H.out.at_ (i := q) (by have := HL.out; omega)
      obtain ⟨x3, c3⟩ := H.out.mid (i := p) (j := q) (by have := HL.out; omega) (.int .u64 (x2 : Int))
      have H1 := Lib.hid (H.out.swap (by have := HL.out; omega) (by have := HL.out; omega) c1 c2).drew
      have e3 : decide ((p : Int) < (q : Int)) = true := decide_eq_true (by omega)
      clear H
      go_wp2
      go_region
      go_wp2
      go_roundw
      case rel => exact ⟨p + 1, q - 1, by omega, by omega, by go_num, by go_num, H1⟩
      case measure => simp [intOf]; omega
    · go_wp2
      go_end0
      exact ⟨rfl, H.out⟩
set_option maxRecDepth 100000 in
set_option maxHeartbeats 8000000 in
theorem partition_any (g n cap sz a b p : Nat) (xs : List Nat) (w : World) (h : SortI w w g xs sz) (hl : xs.length = n) (hab : a + 1 < b) (hb : b ≤ n) (hp2 : p < b) (hn : n ≤ 1000000) (hc : n ≤ cap) (hcm : cap ≤ 9223372036854775807) :
    Calls Tryz.prog 228 #[.slice (some ⟨g, 0, none⟩) n cap, .int .i64 (a : Int), .int .i64 (b : Int), .int .i64 (p : Int)] w (RetPart w g xs sz a b) := by
  have H := Lib.hid h
  have HL := Lib.hid hl
  clear h hl
  obtain ⟨b', rfl⟩ : ∃ b', b = b' + 1 := ⟨b - 1, by omega⟩
  have u1 : IntKind.i64.wrap (b' : Int) = (b' : Int) := by rw [IntKind.wrap_i64]; omega
  have e1 : (a : Int) < (n : Int) := by omega
  have e2 : (p : Int) < (n : Int) := by omega
  go_enter Tryz.func228, Tryz.ntmps228
  obtain ⟨x1, c1, z1⟩ := H.out.at_ (i := a) (by have := HL.out; omega)
  obtain ⟨x2, c2, z2⟩ := H.out.at_ (i := p) (by have := HL.out; omega)
  obtain ⟨x3, c3⟩ := H.out.mid (i := a) (j := p) (by have := HL.out; omega) (.int .u64 (x2 : Int))
  have H1 := Lib.hid (H.out.swap (by have := HL.out; omega) (by have := HL.out; omega) c1 c2).drew
  clear H
  go_wp2
  go_region
  clear c1 c2 c3 z1 z2
  go_upto_block 0 with fail
  go_cut [10] from 30 to 45 (fun v wx => ∃ k : Nat, v = .int .i64 k ∧ a + 1 ≤ k ∧ k ≤ b' + 1 ∧ Hid (SortI w wx g xs sz))
  case first =>
    go_wp2_with fail
    go_loopw [10] (fun i wr => ∃ k : Nat, a + 1 ≤ k ∧ k ≤ b' + 1 ∧ i = .int .i64 k ∧ Hid (SortI w wr g xs sz)) (fun i _ => b' + 1 - (intOf i).toNat)
    case atStart => exact ⟨a + 1, by omega, by omega, by go_num, H1⟩
    case round =>
      clear H1
      obtain ⟨k, hk1, hk2, rfl, H⟩ := hrel
      by_cases hle : k ≤ b'
      · have e3 : (k : Int) < (n : Int) := by omega
        have e4 : decide ((k : Int) ≤ (b' : Int)) = true := decide_eq_true (by omega)
        go_wp2_with fail
        obtain ⟨x1, c1, z1⟩ := H.out.at_ (i := k) (by have := HL.out; omega)
        obtain ⟨x2, c2, z2⟩ := H.out.at_ (i := a) (by have := HL.out; omega)
        obtain ⟨bb, HLs⟩ := less_some x1 x2
        go_quiet ((go_at_call 226; exact Calls.quiet_of_same (HLs.out _)))
        have H1 := Lib.hid (H.out.drewN nq)
        clear c1 c2 z1 z2 H
        cases bb
        · go_wp2_with fail
          go_meet
          exact ⟨k, rfl, hk1, hk2, H1⟩
        · go_wp2_with fail
          go_roundw
          case rel => exact ⟨k + 1, by omega, by omega, by go_num, H1⟩
          case measure => simp [intOf]; omega
      · have e4 : decide ((k : Int) ≤ (b' : Int)) = false := decide_eq_false (by omega)
        go_wp2_with fail
        go_quiet (fail)
        have H1 := Lib.hid (H.out.drewN nq)
        go_wp2_with fail
        go_meet
        exact ⟨k, rfl, hk1, hk2, H1⟩
  case rest =>
    clear H1
    obtain ⟨k, rfl, hk1, hk2, H⟩ := hcut
    go_upto_block 2 with fail
    go_cut [11] from 46 to 62 (fun v wx => ∃ q : Nat, v = .int .i64 q ∧ a ≤ q ∧ q ≤ b' ∧ Hid (SortI w wx g xs sz))
    case first =>
      go_wp2_with fail
      go_loopw [11] (fun j wr => ∃ q : Nat, a ≤ q ∧ q ≤ b' ∧ j = .int .i64 q ∧ Hid (SortI w wr g xs sz)) (fun j _ => (intOf j).toNat)
      case atStart => exact ⟨b', by omega, by omega, rfl, H⟩
      case round =>
        clear H
        obtain ⟨q, hq1, hq2, rfl, H⟩ := hrel
        by_cases hle : k ≤ q
        · have e3 : (q : Int) < (n : Int) := by omega
          have e4 : decide ((k : Int) ≤ (q : Int)) = true := decide_eq_true (by omega)
          go_wp2_with fail
          obtain ⟨x1, c1, z1⟩ := H.out.at_ (i := q) (by have := HL.out; omega)
          obtain ⟨x2, c2, z2⟩ := H.out.at_ (i := a) (by have := HL.out; omega)
          obtain ⟨bb, HLs⟩ := less_some x1 x2
          go_quiet ((go_at_call 226; exact Calls.quiet_of_same (HLs.out _)))
          have H1 := Lib.hid (H.out.drewN nq)
          clear c1 c2 z1 z2 H
          cases bb
          · go_wp2_with fail
            go_roundw
            case rel => exact ⟨q - 1, by omega, by omega, by go_num, H1⟩
            case measure => simp [intOf]; omega
          · go_wp2_with fail
            go_meet
            exact ⟨q, rfl, hq1, hq2, H1⟩
        · have e4 : decide ((k : Int) ≤ (q : Int)) = false := decide_eq_false (by omega)
          go_wp2_with fail
          go_quiet (fail)
          have H1 := Lib.hid (H.out.drewN nq)
          go_wp2_with fail
          go_meet
          exact ⟨q, rfl, hq1, hq2, H1⟩
    case rest =>
      clear H
      obtain ⟨q, rfl, hq1, hq2, H⟩ := hcut
      by_cases hgt : q < k
      · have e3 : (q : Int) < (n : Int) := by omega
        have e4 : decide ((q : Int) < (k : Int)) = true := decide_eq_true (by omega)
        obtain ⟨x1, c1, z1⟩ := H.out.at_ (i := q) (by have := HL.out; omega)
        obtain ⟨x2, c2, z2⟩ := H.out.at_ (i := a) (by have := HL.out; omega)
        obtain ⟨x3, c3⟩ := H.out.mid (i := q) (j := a) (by have := HL.out; omega) (.int .u64 (x2 : Int))
        have H1 := Lib.hid (H.out.swap (by have := HL.out; omega) (by have := HL.out; omega) c1 c2).drew
        clear H
        go_wp2_with fail
        go_region
        clear c1 c2 c3 z1 z2
        go_wp2_with fail
        go_ret2
        exact ⟨q, true, rfl, by omega, by omega, H1.out⟩
      · have e3 : (q : Int) < (n : Int) := by omega
        have e4 : decide ((q : Int) < (k : Int)) = false := decide_eq_false (by omega)
        have e5 : (k : Int) < (n : Int) := by omega
        obtain ⟨x1, c1, z1⟩ := H.out.at_ (i := k) (by have := HL.out; omega)
        obtain ⟨x2, c2, z2⟩ := H.out.at_ (i := q) (by have := HL.out; omega)
        obtain ⟨x3, c3⟩ := H.out.mid (i := k) (j := q) (by have := HL.out; omega) (.int .u64 (x2 : Int))
        have H1 := Lib.hid (H.out.swap (by have := HL.out; omega) (by have := HL.out; omega) c1 c2).drew
        clear H
        go_wp2_with fail
        go_region
        clear c1 c2 c3 z1 z2
        go_wp2_with fail
        go_loopw [10, 11] (fun i j wr => ∃ k q : Nat, a + 1 ≤ k ∧ k ≤ b' + 1 ∧ a ≤ q ∧ q ≤ b' ∧ i = .int .i64 k ∧ j = .int .i64 q ∧ Hid (SortI w wr g xs sz)) (fun i _ _ => b' + 1 - (intOf i).toNat)
        case atStart => exact ⟨k + 1, q - 1, by omega, by omega, by omega, by omega, by go_num, by go_num, H1⟩
        case round =>
          clear H1 e3 e4 e5 hgt
          obtain ⟨k0, q0, hk01, hk02, hq01, hq02, rfl, rfl, H⟩ := hrel
          go_upto_block 6 with fail
          go_cut [10] from 99 to 152 (fun v wx => ∃ k : Nat, v = .int .i64 k ∧ k0 ≤ k ∧ k ≤ b' + 1 ∧ Hid (SortI w wx g xs sz))
          case first =>
            go_wp2_with fail
            go_loopw [10] (fun i wr => ∃ k : Nat, k0 ≤ k ∧ k ≤ b' + 1 ∧ i = .int .i64 k ∧ Hid (SortI w wr g xs sz)) (fun i _ => b' + 1 - (intOf i).toNat)
            case atStart => exact ⟨k0, by omega, by omega, rfl, H⟩
            case round =>
              clear H
              obtain ⟨k, hk1, hk2, rfl, H⟩ := hrel
              by_cases hle : k ≤ q0
              · have e3 : (k : Int) < (n : Int) := by omega
                have e4 : decide ((k : Int) ≤ (q0 : Int)) = true := decide_eq_true (by omega)
                go_wp2_with fail
                obtain ⟨x1, c1, z1⟩ := H.out.at_ (i := k) (by have := HL.out; omega)
                obtain ⟨x2, c2, z2⟩ := H.out.at_ (i := a) (by have := HL.out; omega)
                obtain ⟨bb, HLs⟩ := less_some x1 x2
                go_quiet ((go_at_call 226; exact Calls.quiet_of_same (HLs.out _)))
                have H1 := Lib.hid (H.out.drewN nq)
                clear c1 c2 z1 z2 H
                cases bb
                · go_wp2_with fail
                  go_meet
                  exact ⟨k, rfl, hk1, hk2, H1⟩
                · go_wp2_with fail
                  go_roundw
                  case rel => exact ⟨k + 1, by omega, by omega, by go_num, H1⟩
                  case measure => simp [intOf]; omega
              · have e4 : decide ((k : Int) ≤ (q0 : Int)) = false := decide_eq_false (by omega)
                go_wp2_with fail
                go_quiet (fail)
                have H1 := Lib.hid (H.out.drewN nq)
                go_wp2_with fail
                go_meet
                exact ⟨k, rfl, hk1, hk2, H1⟩
          case rest =>
            clear H
            obtain ⟨k, rfl, hk1, hk2, H⟩ := hcut
            go_upto_block 8 with fail
            go_cut [11] from 99 to 152 (fun v wx => ∃ q : Nat, v = .int .i64 q ∧ a ≤ q ∧ q ≤ b' ∧ Hid (SortI w wx g xs sz))
            case first =>
              go_wp2_with fail
              go_loopw [11] (fun j wr => ∃ q : Nat, a ≤ q ∧ q ≤ b' ∧ j = .int .i64 q ∧ Hid (SortI w wr g xs sz)) (fun j _ => (intOf j).toNat)
              case atStart => exact ⟨q0, by omega, by omega, rfl, H⟩
              case round =>
                clear H
                obtain ⟨q, hq1, hq2, rfl, H⟩ := hrel
                by_cases hle : k ≤ q
                · have e3 : (q : Int) < (n : Int) := by omega
                  have e4 : decide ((k : Int) ≤ (q : Int)) = true := decide_eq_true (by omega)
                  go_wp2_with fail
                  obtain ⟨x1, c1, z1⟩ := H.out.at_ (i := q) (by have := HL.out; omega)
                  obtain ⟨x2, c2, z2⟩ := H.out.at_ (i := a) (by have := HL.out; omega)
                  obtain ⟨bb, HLs⟩ := less_some x1 x2
                  go_quiet ((go_at_call 226; exact Calls.quiet_of_same (HLs.out _)))
                  have H1 := Lib.hid (H.out.drewN nq)
                  clear c1 c2 z1 z2 H
                  cases bb
                  · go_wp2_with fail
                    go_roundw
                    case rel => exact ⟨q - 1, by omega, by omega, by go_num, H1⟩
                    case measure => simp [intOf]; omega
                  · go_wp2_with fail
                    go_meet
                    exact ⟨q, rfl, hq1, hq2, H1⟩
                · have e4 : decide ((k : Int) ≤ (q : Int)) = false := decide_eq_false (by omega)
                  go_wp2_with fail
                  go_quiet (fail)
                  have H1 := Lib.hid (H.out.drewN nq)
                  go_wp2_with fail
                  go_meet
                  exact ⟨q, rfl, hq1, hq2, H1⟩
            case rest =>
              clear H
              obtain ⟨q, rfl, hq1, hq2, H⟩ := hcut
              by_cases hgt : q < k
              · have e3 : (q : Int) < (n : Int) := by omega
                have e4 : decide ((q : Int) < (k : Int)) = true := decide_eq_true (by omega)
                obtain ⟨x1, c1, z1⟩ := H.out.at_ (i := q) (by have := HL.out; omega)
                obtain ⟨x2, c2, z2⟩ := H.out.at_ (i := a) (by have := HL.out; omega)
                obtain ⟨x3, c3⟩ := H.out.mid (i := q) (j := a) (by have := HL.out; omega) (.int .u64 (x2 : Int))
                have H1 := Lib.hid (H.out.swap (by have := HL.out; omega) (by have := HL.out; omega) c1 c2).drew
                clear H
                go_wp2_with fail
                go_region
                clear c1 c2 c3 z1 z2
                go_wp2_with fail
                go_ret2
                exact ⟨q, false, rfl, by omega, by omega, H1.out⟩
              · have e3 : (q : Int) < (n : Int) := by omega
                have e4 : decide ((q : Int) < (k : Int)) = false := decide_eq_false (by omega)
                have e5 : (k : Int) < (n : Int) := by omega
                obtain ⟨x1, c1, z1⟩ := H.out.at_ (i := k) (by have := HL.out; omega)
                obtain ⟨x2, c2, z2⟩ := H.out.at_ (i := q) (by have := HL.out; omega)
                obtain ⟨x3, c3⟩ := H.out.mid (i := k) (j := q) (by have := HL.out; omega) (.int .u64 (x2 : Int))
                have H1 := Lib.hid (H.out.swap (by have := HL.out; omega) (by have := HL.out; omega) c1 c2).drew
                clear H
                go_wp2_with fail
                go_region
                clear c1 c2 c3 z1 z2
                go_wp2_with fail
                go_roundw
                case rel => exact ⟨k + 1, q - 1, by omega, by omega, by omega, by omega, by go_num, by go_num, H1⟩
                case measure => simp [intOf]; omega
set_option maxRecDepth 100000 in
set_option maxHeartbeats 8000000 in
theorem partEqual_any (g n cap sz a b p : Nat) (xs : List Nat) (w : World) (h : SortI w w g xs sz) (hl : xs.length = n) (hab : a + 1 < b) (hb : b ≤ n) (hp2 : p < b) (hn : n ≤ 1000000) (hc : n ≤ cap) (hcm : cap ≤ 9223372036854775807) :
    Calls Tryz.prog 227 #[.slice (some ⟨g, 0, none⟩) n cap, .int .i64 (a : Int), .int .i64 (b : Int), .int .i64 (p : Int)] w (RetMid w g xs sz (a + 1) b) := by
  have H := Lib.hid h
  have HL := Lib.hid hl
  clear h hl
  obtain ⟨b', rfl⟩ : ∃ b', b = b' + 1 := ⟨b - 1, by omega⟩
  have u1 : IntKind.i64.wrap (b' : Int) = (b' : Int) := by rw [IntKind.wrap_i64]; omega
  have e1 : (a : Int) < (n : Int) := by omega
  have e2 : (p : Int) < (n : Int) := by omega
  go_enter Tryz.func227, Tryz.ntmps227
  obtain ⟨x1, c1, z1⟩ := H.out.at_ (i := a) (by have := HL.out; omega)
  obtain ⟨x2, c2, z2⟩ := H.out.at_ (i := p) (by have := HL.out; omega)
  obtain ⟨x3, c3⟩ := H.out.mid (i := a) (j := p) (by have := HL.out; omega) (.int .u64 (x2 : Int))
  have H1 := Lib.hid (H.out.swap (by have := HL.out; omega) (by have := HL.out; omega) c1 c2).drew
  clear H
  go_wp2
  go_region
  clear c1 c2 c3 z1 z2
  go_wp2_with fail
  go_loopw [9, 10] (fun i j wr => ∃ k q : Nat, a + 1 ≤ k ∧ k ≤ b' + 1 ∧ a ≤ q ∧ q ≤ b' ∧ i = .int .i64 k ∧ j = .int .i64 q ∧ Hid (SortI w wr g xs sz)) (fun i _ _ => b' + 1 - (intOf i).toNat)
  case atStart => exact ⟨a + 1, b', by omega, by omega, by omega, by omega, by go_num, by go_num, H1⟩
  case round =>
    clear H1
    obtain ⟨k0, q0, hk01, hk02, hq01, hq02, rfl, rfl, H⟩ := hrel
    go_upto_block 2 with fail
    go_cut [9] from 29 to 82 (fun v wx => ∃ k : Nat, v = .int .i64 k ∧ k0 ≤ k ∧ k ≤ b' + 1 ∧ Hid (SortI w wx g xs sz))
    case first =>
      go_wp2_with fail
      go_loopw [9] (fun i wr => ∃ k : Nat, k0 ≤ k ∧ k ≤ b' + 1 ∧ i = .int .i64 k ∧ Hid (SortI w wr g xs sz)) (fun i _ => b' + 1 - (intOf i).toNat)
      case atStart => exact ⟨k0, by omega, by omega, rfl, H⟩
      case round =>
        clear H
        obtain ⟨k, hk1, hk2, rfl, H⟩ := hrel
        by_cases hle : k ≤ q0
        · have e3 : (k : Int) < (n : Int) := by omega
          have e4 : decide ((k : Int) ≤ (q0 : Int)) = true := decide_eq_true (by omega)
          go_wp2_with fail
          obtain ⟨x1, c1, z1⟩ := H.out.at_ (i := a) (by have := HL.out; omega)
          obtain ⟨x2, c2, z2⟩ := H.out.at_ (i := k) (by have := HL.out; omega)
          obtain ⟨bb, HLs⟩ := less_some x1 x2
          go_quiet ((go_at_call 226; exact Calls.quiet_of_same (HLs.out _)))
          have H1 := Lib.hid (H.out.drewN nq)
          clear c1 c2 z1 z2 H
          cases bb
          · go_wp2_with fail
            go_roundw
            case rel => exact ⟨k + 1, by omega, by omega, by go_num, H1⟩
            case measure => simp [intOf]; omega
          · go_wp2_with fail
            go_meet
            exact ⟨k, rfl, hk1, hk2, H1⟩
        · have e4 : decide ((k : Int) ≤ (q0 : Int)) = false := decide_eq_false (by omega)
          go_wp2_with fail
          go_quiet (fail)
          have H1 := Lib.hid (H.out.drewN nq)
          go_wp2_with fail
          go_meet
          exact ⟨k, rfl, hk1, hk2, H1⟩
    case rest =>
      clear H
      obtain ⟨k, rfl, hk1, hk2, H⟩ := hcut
      go_upto_block 4 with fail
      go_cut [10] from 29 to 82 (fun v wx => ∃ q : Nat, v = .int .i64 q ∧ a ≤ q ∧ q ≤ b' ∧ Hid (SortI w wx g xs sz))
      case first =>
        go_wp2_with fail
        go_loopw [10] (fun j wr => ∃ q : Nat, a ≤ q ∧ q ≤ b' ∧ j = .int .i64 q ∧ Hid (SortI w wr g xs sz)) (fun j _ => (intOf j).toNat)
        case atStart => exact ⟨q0, by omega, by omega, rfl, H⟩
        case round =>
          clear H
          obtain ⟨q, hq1, hq2, rfl, H⟩ := hrel
          by_cases hle : k ≤ q
          · have e3 : (q : Int) < (n : Int) := by omega
            have e4 : decide ((k : Int) ≤ (q : Int)) = true := decide_eq_true (by omega)
            go_wp2_with fail
            obtain ⟨x1, c1, z1⟩ := H.out.at_ (i := a) (by have := HL.out; omega)
            obtain ⟨x2, c2, z2⟩ := H.out.at_ (i := q) (by have := HL.out; omega)
            obtain ⟨bb, HLs⟩ := less_some x1 x2
            go_quiet ((go_at_call 226; exact Calls.quiet_of_same (HLs.out _)))
            have H1 := Lib.hid (H.out.drewN nq)
            clear c1 c2 z1 z2 H
            cases bb
            · go_wp2_with fail
              go_meet
              exact ⟨q, rfl, hq1, hq2, H1⟩
            · go_wp2_with fail
              go_roundw
              case rel => exact ⟨q - 1, by omega, by omega, by go_num, H1⟩
              case measure => simp [intOf]; omega
          · have e4 : decide ((k : Int) ≤ (q : Int)) = false := decide_eq_false (by omega)
            go_wp2_with fail
            go_quiet (fail)
            have H1 := Lib.hid (H.out.drewN nq)
            go_wp2_with fail
            go_meet
            exact ⟨q, rfl, hq1, hq2, H1⟩
      case rest =>
        clear H
        obtain ⟨q, rfl, hq1, hq2, H⟩ := hcut
        by_cases hgt : q < k
        · have e4 : decide ((q : Int) < (k : Int)) = true := decide_eq_true (by omega)
          go_wp2_with fail
          go_ret
          exact ⟨k, rfl, by omega, by omega, H.out⟩
        · have e3 : (q : Int) < (n : Int) := by omega
          have e4 : decide ((q : Int) < (k : Int)) = false := decide_eq_false (by omega)
          have e5 : (k : Int) < (n : Int) := by omega
          obtain ⟨x1, c1, z1⟩ := H.out.at_ (i := k) (by have := HL.out; omega)
          obtain ⟨x2, c2, z2⟩ := H.out.at_ (i := q) (by have := HL.out; omega)
          obtain ⟨x3, c3⟩ := H.out.mid (i := k) (j := q) (by have := HL.out; omega) (.int .u64 (x2 : Int))
          have H1 := Lib.hid (H.out.swap (by have := HL.out; omega) (by have := HL.out; omega) c1 c2).drew
          clear H
          go_wp2_with fail
          go_region
          clear c1 c2 c3 z1 z2
          go_wp2_with fail
          go_roundw
          case rel => exact ⟨k + 1, q - 1, by omega, by omega, by omega, by omega, by go_num, by go_num, H1⟩
          case measure => simp [intOf]; omega
end Go.Proofs.YtklpeghhgoeeiaaGreatDoor
