/- The walks and laws that the claim leans on, part 5: each part says ahead of its lines what it holds. -/
import Derived.Test.YtklpeghhgoeeiaaGreatDoorJad
import Derived.Lib.SliceRun
/- slices.Sort of at most twelve words: the row is permuted. -/
namespace Go.Proofs.YtklpeghhgoeeiaaGreatDoor
open Go.RowKit
/-- A row of words. -/
def RowU (cs : Array Value) (xs : List Nat) : Prop := xs.length ≤ cs.size ∧ ∀ i (h : i < xs.length), cs[i]? = some (.int .u64 ((xs[i] : Nat) : Int))
theorem RowU.set {cs : Array Value} {xs : List Nat} (h : RowU cs xs) (j x : Nat) (hj : j < xs.length) : RowU (cs.setIfInBounds j (.int .u64 (x : Int))) (xs.set j x) := by
  refine ⟨by simpa using h.1, fun i hi => ?_⟩
  rw [List.length_set] at hi
  rw [set_at i (by have := h.1; omega), List.getElem_set]
  by_cases hij : i = j
  · rw [if_pos hij, if_pos hij.symm]
  · rw [if_neg hij, if_neg (fun e => hij e.symm)]; exact h.2 i hi
/-- While a row is sorted. -/
def SortI (w wr : World) (g : Nat) (xs : List Nat) (sz : Nat) : Prop := ∃ cs ys, Blk wr g 35 cs ∧ cs.size = sz ∧ RowU cs ys ∧ ys.Perm xs ∧ Chg (fun k => k = g) w wr
def RetSort (w : World) (g : Nat) (xs : List Nat) (sz : Nat) (e : Ending) (w' : World) : Prop := e = .returned (.tuple #[]) ∧ SortI w w' g xs sz
set_option maxRecDepth 100000 in
set_option maxHeartbeats 8000000 in
theorem insertion_any (g n cap sz : Nat) (xs : List Nat) (w : World) (h : SortI w w g xs sz) (hl : xs.length = n) (hn : n ≤ 1000000) (hc : n ≤ cap) (hcm : cap ≤ 9223372036854775807) :
    Calls Tryz.prog 220 #[.slice (some ⟨g, 0, none⟩) n cap, .int .i64 0, .int .i64 (n : Int)] w (RetSort w g xs sz) := by
  have H0 := Lib.hid h
  have HL := Lib.hid hl
  clear h hl
  go_enter Tryz.func220, Tryz.ntmps220
  go_wp2
  go_loopw [6] (fun i wr => ∃ (k : Nat), 1 ≤ k ∧ k ≤ n + 1 ∧ i = .int .i64 k ∧ Hid (SortI w wr g xs sz)) (fun i _ => n + 1 - (intOf i).toNat)
  case atStart => exact ⟨1, by omega, by omega, rfl, H0⟩
  case round =>
    clear H0
    obtain ⟨k, hk1, hk, rfl, H⟩ := hrel
    by_cases hlt : k < n
    · go_wp2
      go_loopw [7] (fun j wr => ∃ (q : Nat), q ≤ k ∧ j = .int .i64 q ∧ Hid (SortI w wr g xs sz)) (fun j _ => (intOf j).toNat)
      case atStart => exact ⟨k, Nat.le_refl _, rfl, H⟩
      case round =>
        clear H
        obtain ⟨q, hq, rfl, H⟩ := hrel
        by_cases hq0 : q = 0
        · subst hq0
          have HB := H.out
          have H1 : Hid (SortI w wr.drew g xs sz) := by
            obtain ⟨cs, ys, h1, h2, h3, h4, h5⟩ := H.out
            exact ⟨cs, ys, h1, h2, h3, h4, h5.drew⟩
          clear HB H
          go_wp2
          refine wp_region_script (fun w' => w' = wr.drew) 14 [(true, 0), (true, 1), (true, 2), (true, 3), (true, 4), (true, 5), (true, 6), (true, 7), (true, 8), (true, 9), (true, 10), (true, 11), (true, 12), (false, 13)] (by kernel_rfl) (by kernel_rfl) rfl ?_
          refine wpScript_take (.int .i64 0) (by rfl) (by rfl) (fun w' hS => ?_) ?_
          · go_simp
          simp only [List.getElem_toArray, List.getElem_cons_zero, Act.put, List.setIfInBounds_toArray, List.set_cons_zero, List.set_cons_succ]
          refine wpScript_take (.int .i64 0) (by rfl) (by rfl) (fun w' hS => ?_) ?_
          · go_simp
          simp only [List.getElem_toArray, List.getElem_cons_zero, List.getElem_cons_succ, Act.put, List.setIfInBounds_toArray, List.set_cons_zero, List.set_cons_succ]
          refine wpScript_take (.bool false) (by rfl) (by rfl) (fun w' hS => ?_) ?_
          · go_simp
          simp only [List.getElem_toArray, List.getElem_cons_zero, List.getElem_cons_succ, Act.put, List.setIfInBounds_toArray, List.set_cons_zero, List.set_cons_succ]
          refine wpScript_take (.bool false) (by rfl) (by rfl) (fun w' hS => ?_) ?_
          · go_simp
          simp only [List.getElem_toArray, List.getElem_cons_zero, List.getElem_cons_succ, Act.put, List.setIfInBounds_toArray, List.set_cons_zero, List.set_cons_succ]
          refine wpScript_skip (by rfl) (by rfl) ?_
          simp only [List.getElem_toArray, List.getElem_cons_zero, List.getElem_cons_succ, Act.put, List.setIfInBounds_toArray, List.set_cons_zero, List.set_cons_succ]
          refine wpScript_skip (by rfl) (by rfl) ?_
          simp only [List.getElem_toArray, List.getElem_cons_zero, List.getElem_cons_succ, Act.put, List.setIfInBounds_toArray, List.set_cons_zero, List.set_cons_succ]
          refine wpScript_skip (by rfl) (by rfl) ?_
          simp only [List.getElem_toArray, List.getElem_cons_zero, List.getElem_cons_succ, Act.put, List.setIfInBounds_toArray, List.set_cons_zero, List.set_cons_succ]
          refine wpScript_skip (by rfl) (by rfl) ?_
          simp only [List.getElem_toArray, List.getElem_cons_zero, List.getElem_cons_succ, Act.put, List.setIfInBounds_toArray, List.set_cons_zero, List.set_cons_succ]
          refine wpScript_skip (by rfl) (by rfl) ?_
          simp only [List.getElem_toArray, List.getElem_cons_zero, List.getElem_cons_succ, Act.put, List.setIfInBounds_toArray, List.set_cons_zero, List.set_cons_succ]
          refine wpScript_skip (by rfl) (by rfl) ?_
          simp only [List.getElem_toArray, List.getElem_cons_zero, List.getElem_cons_succ, Act.put, List.setIfInBounds_toArray, List.set_cons_zero, List.set_cons_succ]
          refine wpScript_skip (by rfl) (by rfl) ?_
          simp only [List.getElem_toArray, List.getElem_cons_zero, List.getElem_cons_succ, Act.put, List.setIfInBounds_toArray, List.set_cons_zero, List.set_cons_succ]
          refine wpScript_skip (by rfl) (by rfl) ?_
          simp only [List.getElem_toArray, List.getElem_cons_zero, List.getElem_cons_succ, Act.put, List.setIfInBounds_toArray, List.set_cons_zero, List.set_cons_succ]
          refine wpScript_skip (by rfl) (by rfl) ?_
          simp only [List.getElem_toArray, List.getElem_cons_zero, List.getElem_cons_succ, Act.put, List.setIfInBounds_toArray, List.set_cons_zero, List.set_cons_succ]
          refine wpScript_do (by rfl) ?_
          go_wp2_with fail
          refine ⟨rfl, ?_⟩
          show wpList _ _ _ _ _ _
          simp only [List.drop_succ_cons, List.drop_zero]
          go_wp2_with fail
          refine NoPanic.normal ?_
          go_wp2
          go_roundw
          case rel => exact ⟨k + 1, by omega, by omega, by go_num, H1⟩
          case measure => simp [intOf]; omega
        · obtain ⟨q', rfl⟩ : ∃ q', q = q' + 1 := ⟨q - 1, by omega⟩
          obtain ⟨cs, ys, h1, h2, h3, h4, h5⟩ := H.out
          have hyl : ys.length = n := by rw [h4.length_eq]; exact HL.out
          have i1 : q' + 1 < ys.length := by omega
          have i0 : q' < ys.length := by omega
          have c1 : wr.cell? ⟨g, q' + 1, none⟩ = some (.int .u64 ((ys[q' + 1] : Nat) : Int)) := by rw [h1.cell]; exact h3.2 _ i1
          have c0 : wr.cell? ⟨g, q', none⟩ = some (.int .u64 ((ys[q'] : Nat) : Int)) := by rw [h1.cell]; exact h3.2 _ i0
          have HP := Lib.hid (List.set_set_perm i1 i0)
          have HRW := Lib.hid ((h3.set (q' + 1) ys[q'] i1).set q' ys[q' + 1] (by rw [List.length_set]; exact i0))
          have z1 := h1.frozen (q' + 1)
          have z0 := h1.frozen q'
          have HBk := Lib.hid h1
          have HSz := Lib.hid h2
          have HPm := Lib.hid h4
          have HCh := Lib.hid h5
          have HRo := Lib.hid h3
          generalize hx1 : ys[q' + 1] = x1 at *
          generalize hx0 : ys[q'] = x0 at *
          clear hx1 hx0 h1 h2 h3 h4 h5 H
          have e1 : (0 : Int) < (q' : Int) + 1 := by omega
          have e2 : (q' : Int) + 1 < (n : Int) := by omega
          have e3 : (q' : Int) < (n : Int) := by omega
          have e4 : (0 : Int) ≤ (q' : Int) := by omega
          have e5 : decide ((0 : Int) < (q' : Int) + 1) = true := decide_eq_true (by omega)
          have e6 : ((q' : Int) + 1).toNat = q' + 1 := by omega
          have e7 : ¬ ((q' : Int) + 1 < 0) := by omega
          have e8 : IntKind.i64.wrap (q' : Int) = (q' : Int) := by rw [IntKind.wrap_i64]; omega
          have e9 : (0 : Int) ≤ (q' : Int) + 1 := by omega
          go_wp2
          refine wp_region_script (fun w' => w' = wr.drew) 14 [(true, 0), (true, 1), (true, 2), (true, 3), (true, 4), (true, 5), (true, 6), (true, 7), (true, 8), (true, 9), (true, 10), (true, 11), (true, 12), (false, 13)] (by kernel_rfl) (by kernel_rfl) rfl ?_
          refine wpScript_take (.int .i64 ((q' : Int) + 1)) (by rfl) (by rfl) (fun w' hS => ?_) ?_
          · go_simp
          simp only [List.getElem_toArray, List.getElem_cons_zero, Act.put, List.setIfInBounds_toArray, List.set_cons_zero, List.set_cons_succ]
          refine wpScript_take (.int .i64 0) (by rfl) (by rfl) (fun w' hS => ?_) ?_
          · go_simp
          simp only [List.getElem_toArray, List.getElem_cons_zero, List.getElem_cons_succ, Act.put, List.setIfInBounds_toArray, List.set_cons_zero, List.set_cons_succ]
          refine wpScript_take (.bool true) (by rfl) (by rfl) (fun w' hS => ?_) ?_
          · go_simp
          simp only [List.getElem_toArray, List.getElem_cons_zero, List.getElem_cons_succ, Act.put, List.setIfInBounds_toArray, List.set_cons_zero, List.set_cons_succ]
          refine wpScript_take (.bool true) (by rfl) (by rfl) (fun w' hS => ?_) ?_
          · go_simp
          simp only [List.getElem_toArray, List.getElem_cons_zero, List.getElem_cons_succ, Act.put, List.setIfInBounds_toArray, List.set_cons_zero, List.set_cons_succ]
          refine wpScript_take (.slice (some ⟨g, 0, none⟩) n cap) (by rfl) (by rfl) (fun w' hS => ?_) ?_
          · go_simp
          simp only [List.getElem_toArray, List.getElem_cons_zero, List.getElem_cons_succ, Act.put, List.setIfInBounds_toArray, List.set_cons_zero, List.set_cons_succ]
          refine wpScript_take (.int .i64 ((q' : Int) + 1)) (by rfl) (by rfl) (fun w' hS => ?_) ?_
          · go_simp
          simp only [List.getElem_toArray, List.getElem_cons_zero, List.getElem_cons_succ, Act.put, List.setIfInBounds_toArray, List.set_cons_zero, List.set_cons_succ]
          refine wpScript_take (.pointer (some ⟨g, q' + 1, none⟩)) (by rfl) (by rfl) (fun w' hS => ?_) ?_
          · go_simp
          simp only [List.getElem_toArray, List.getElem_cons_zero, List.getElem_cons_succ, Act.put, List.setIfInBounds_toArray, List.set_cons_zero, List.set_cons_succ]
          refine wpScript_take (.int .u64 (x1 : Int)) (by rfl) (by rfl) (fun w' hS => ?_) ?_
          · subst hS
            go_simp
          simp only [List.getElem_toArray, List.getElem_cons_zero, List.getElem_cons_succ, Act.put, List.setIfInBounds_toArray, List.set_cons_zero, List.set_cons_succ]
          refine wpScript_take (.slice (some ⟨g, 0, none⟩) n cap) (by rfl) (by rfl) (fun w' hS => ?_) ?_
          · go_simp
          simp only [List.getElem_toArray, List.getElem_cons_zero, List.getElem_cons_succ, Act.put, List.setIfInBounds_toArray, List.set_cons_zero, List.set_cons_succ]
          refine wpScript_take (.int .i64 ((q' : Int) + 1)) (by rfl) (by rfl) (fun w' hS => ?_) ?_
          · go_simp
          simp only [List.getElem_toArray, List.getElem_cons_zero, List.getElem_cons_succ, Act.put, List.setIfInBounds_toArray, List.set_cons_zero, List.set_cons_succ]
          refine wpScript_take (.int .i64 (q' : Int)) (by rfl) (by rfl) (fun w' hS => ?_) ?_
          · go_simp
          simp only [List.getElem_toArray, List.getElem_cons_zero, List.getElem_cons_succ, Act.put, List.setIfInBounds_toArray, List.set_cons_zero, List.set_cons_succ]
          refine wpScript_take (.pointer (some ⟨g, q', none⟩)) (by rfl) (by rfl) (fun w' hS => ?_) ?_
          · go_simp
          simp only [List.getElem_toArray, List.getElem_cons_zero, List.getElem_cons_succ, Act.put, List.setIfInBounds_toArray, List.set_cons_zero, List.set_cons_succ]
          refine wpScript_take (.int .u64 (x0 : Int)) (by rfl) (by rfl) (fun w' hS => ?_) ?_
          · subst hS
            go_simp
          simp only [List.getElem_toArray, List.getElem_cons_zero, List.getElem_cons_succ, Act.put, List.setIfInBounds_toArray, List.set_cons_zero, List.set_cons_succ]
          refine wpScript_do (by rfl) ?_
          go_wp2
          refine ⟨rfl, ?_⟩
          show wpList _ _ _ _ _ _
          simp only [List.drop_succ_cons, List.drop_zero]
          by_cases hx : x1 < x0
          · have t1 : decide ((x1 : Int) < (x0 : Int)) = true := decide_eq_true (by omega)
            have t2 : decide (x1 < x0) = true := decide_eq_true hx
            go_wp2_with fail
            refine NoPanic.normal ?_
            clear e5 t1 t2
            go_wp2
            have H1 : Hid (SortI w ((wr.setCell ⟨g, q' + 1, none⟩ (.int .u64 (x0 : Int))).setCell ⟨g, q', none⟩ (.int .u64 (x1 : Int))).drew.drew g xs sz) :=
              ⟨(cs.setIfInBounds (q' + 1) (.int .u64 (x0 : Int))).setIfInBounds q' (.int .u64 (x1 : Int)), (ys.set (q' + 1) x0).set q' x1, (HBk.out.set_ (q' + 1) _).set_ q' _, by have := HSz.out; simpa using this, HRW.out, HP.out.trans HPm.out, ((HCh.out.setCell (p := ⟨g, q' + 1, none⟩) (.inl rfl) _).setCell (p := ⟨g, q', none⟩) (.inl rfl) _).drew.drew⟩
            go_region
            go_wp2
            exact ⟨⟨q', by omega, rfl, H1⟩, by simp [intOf]⟩
          · have t1 : decide ((x1 : Int) < (x0 : Int)) = false := decide_eq_false (by omega)
            have t2 : decide (x1 < x0) = false := decide_eq_false hx
            have H1 : Hid (SortI w wr.drew g xs sz) := ⟨cs, ys, HBk.out, HSz.out, HRo.out, HPm.out, HCh.out.drew⟩
            go_wp2_with fail
            refine NoPanic.normal ?_
            go_wp2
            go_roundw
            case rel => exact ⟨k + 1, by omega, by omega, by go_num, H1⟩
            case measure => simp [intOf]; omega
    · go_wp2
      go_end0
      exact ⟨rfl, H.out⟩
set_option maxRecDepth 100000 in
set_option maxHeartbeats 4000000 in
theorem pdq_small (g n cap sz : Nat) (lim : Int) (xs : List Nat) (w : World) (h : SortI w w g xs sz) (hl : xs.length = n) (hn : n ≤ 12) (hc : n ≤ cap) (hcm : cap ≤ 9223372036854775807) :
    Calls Tryz.prog 184 #[.slice (some ⟨g, 0, none⟩) n cap, .int .i64 0, .int .i64 (n : Int), .int .i64 lim] w (RetSort w g xs sz) := by
  have HI := Lib.hid (insertion_any g n cap sz xs w h hl (by omega) hc hcm)
  have e1 : decide ((n : Int) ≤ 12) = true := decide_eq_true (by omega)
  have e2 : decide (n ≤ 12) = true := decide_eq_true hn
  clear h hl
  go_enter Tryz.func184, Tryz.ntmps184
  go_wp2
  refine wp_loop_rounds 1 ?_
  rw [rounds_succ]
  go_wp2_with fail
  refine HI.out.mono ?_
  rintro e w1 ⟨rfl, h1⟩
  have H1 := Lib.hid h1
  clear h1
  go_wp2
  go_end0
  exact ⟨rfl, H1.out⟩
end Go.Proofs.YtklpeghhgoeeiaaGreatDoor
/- slices.Sort of at most twelve words; mem.start. -/
namespace Go.Proofs.YtklpeghhgoeeiaaGreatDoor
open Go.RowKit
set_option maxRecDepth 100000 in
set_option maxHeartbeats 4000000 in
theorem sort_small (g n cap sz : Nat) (xs : List Nat) (w : World) (h : SortI w w g xs sz) (hl : xs.length = n) (hn : n ≤ 12) (hc : n ≤ cap) (hcm : cap ≤ 9223372036854775807) :
    Calls Tryz.prog 127 #[.slice (some ⟨g, 0, none⟩) n cap] w (RetSort w g xs sz) := by
  have HP := Lib.hid (fun lim => pdq_small g n cap sz lim xs w h hl hn hc hcm)
  clear h hl
  have e1 : IntKind.u64.wrap (n : Int) = (n : Int) := by rw [IntKind.wrap_u64]; omega
  have e2 : decide ((4294967296 : Int) ≤ (n : Int)) = false := decide_eq_false (by omega)
  have e3 : decide ((65536 : Int) ≤ (n : Int)) = false := decide_eq_false (by omega)
  have e4 : decide ((256 : Int) ≤ (n : Int)) = false := decide_eq_false (by omega)
  have e5 : (0 : Int) ≤ (n : Int) := by omega
  have e6 : (n : Int) < 256 := by omega
  go_enter Tryz.func127, Tryz.ntmps127
  go_wp2_with (first
    | (go_at_call 184; refine (HP.out _).mono ?_; rintro e w1 ⟨rfl, h1⟩; have H1 := Lib.hid h1; clear h1)
    | go_in)
  go_end0
  exact ⟨rfl, H1.out⟩
end Go.Proofs.YtklpeghhgoeeiaaGreatDoor
/- slices.Compact of words: of the elements some are left. -/
namespace Go.Proofs.YtklpeghhgoeeiaaGreatDoor
open Go.RowKit
/-- The first n words of a row satisfy Q. -/
def RowQ (Q : Nat → Prop) (cs : Array Value) (n : Nat) : Prop := n ≤ cs.size ∧ ∀ i, i < n → ∃ x : Nat, Q x ∧ cs[i]? = some (.int .u64 (x : Int))
theorem RowQ.set {Q : Nat → Prop} {cs : Array Value} {n : Nat} (h : RowQ Q cs n) (j x : Nat) (hj : j < n) (hx : Q x) : RowQ Q (cs.setIfInBounds j (.int .u64 (x : Int))) n := by
  refine ⟨by simpa using h.1, fun i hi => ?_⟩
  rw [set_at i (by have := h.1; omega)]
  by_cases hij : i = j
  · rw [if_pos hij]; exact ⟨x, hx, rfl⟩
  · rw [if_neg hij]; exact h.2 i hi
theorem blk_setCells {g : Nat} {t : TypeId} : ∀ (vs : List Value) (o : Nat) {w : World} {cs : Array Value}, Blk w g t cs → ∃ cs', Blk (w.setCells g o vs) g t cs' ∧ cs'.size = cs.size ∧ ∀ i, i < o → cs'[i]? = cs[i]?
  | [], _, _, cs, h => ⟨cs, h, rfl, fun _ _ => rfl⟩
  | v :: r, o, w, cs, h => by
    obtain ⟨cs', h1, h2, h3⟩ := blk_setCells r (o + 1) (h.set_ o v)
    refine ⟨cs', h1, by simpa using h2, fun i hi => ?_⟩
    rw [h3 i (by omega), Array.getElem?_setIfInBounds_ne (by omega)]
theorem chg_setCells {g : Nat} {S : Fp} {w0 : World} (hS : S g) : ∀ (vs : List Value) (o : Nat) {w : World}, Chg S w0 w → Chg S w0 (w.setCells g o vs)
  | [], _, _, h => h
  | v :: r, o, _, h => chg_setCells hS r (o + 1) (h.setCell (p := ⟨g, o, none⟩) (.inl hS) v)
def CompI (Q : Nat → Prop) (w wr : World) (g n sz : Nat) : Prop := ∃ cs, Blk wr g 35 cs ∧ cs.size = sz ∧ RowQ Q cs n ∧ Chg (fun k => k = g) w wr
def RetComp (Q : Nat → Prop) (w : World) (g n cap sz : Nat) (e : Ending) (w' : World) : Prop := ∃ m, e = .returned (.slice (some ⟨g, 0, none⟩) m cap) ∧ m ≤ n ∧ CompI Q w w' g m sz
set_option maxRecDepth 100000 in
set_option maxHeartbeats 8000000 in
theorem compact_any (Q : Nat → Prop) (g n cap sz : Nat) (w : World) (h : CompI Q w w g n sz) (hn : n ≤ 1000000) (hc : n ≤ cap) (hcm : cap ≤ 9223372036854775807) :
    Calls Tryz.prog 144 #[.slice (some ⟨g, 0, none⟩) n cap] w (RetComp Q w g n cap sz) := by
  have H0 := Lib.hid h
  clear h
  by_cases h2 : n < 2
  · have e1 : decide ((n : Int) < 2) = true := decide_eq_true (by omega)
    have e2 : decide (n < 2) = true := decide_eq_true h2
    go_enter Tryz.func144, Tryz.ntmps144
    go_wp2
    go_ret
    exact ⟨n, rfl, Nat.le_refl _, H0.out⟩
  · have e1 : decide ((n : Int) < 2) = false := decide_eq_false (by omega)
    have e2 : decide (n < 2) = false := decide_eq_false h2
    go_enter Tryz.func144, Tryz.ntmps144
    go_wp2
    go_loopw [3] (fun i wr => ∃ (k : Nat), 1 ≤ k ∧ k ≤ n ∧ i = .int .i64 k ∧ Hid (CompI Q w wr g n sz)) (fun i _ => n - (intOf i).toNat)
    case atStart => exact ⟨1, by omega, by omega, rfl, H0⟩
    case round =>
      clear H0
      obtain ⟨k, hk1, hk, rfl, H⟩ := hrel
      by_cases hlt : k < n
      · obtain ⟨q, rfl⟩ : ∃ q, k = q + 1 := ⟨k - 1, by omega⟩
        obtain ⟨cs, h1, h2', h3, h4⟩ := H.out
        obtain ⟨x1, hq1, hx1⟩ := h3.2 (q + 1) hlt
        obtain ⟨x0, hq0, hx0⟩ := h3.2 q (by omega)
        have c1 : wr.cell? ⟨g, q + 1, none⟩ = some (.int .u64 (x1 : Int)) := by rw [h1.cell]; exact hx1
        have c0 : wr.cell? ⟨g, q, none⟩ = some (.int .u64 (x0 : Int)) := by rw [h1.cell]; exact hx0
        have H1 : Hid (CompI Q w wr.drew g n sz) := ⟨cs, h1, h2', h3, h4.drew⟩
        clear h1 h2' h3 h4 hx1 hx0 H
        have a1 : (0 : Int) ≤ (q : Int) + 1 := by omega
        have a2 : (q : Int) + 1 < (n : Int) := by omega
        have a3 : (q : Int) < (n : Int) := by omega
        have a4 : (0 : Int) ≤ (q : Int) := by omega
        have a5 : ((q : Int) + 1).toNat = q + 1 := by omega
        have a6 : IntKind.i64.wrap (q : Int) = (q : Int) := by rw [IntKind.wrap_i64]; omega
        by_cases hxx : x1 = x0
        · have t1 : ((x1 : Int) == (x0 : Int)) = true := by rw [beq_iff_eq]; omega
          go_wp2
          go_region
          go_wp2
          clear t1 c1 c0 a1 a2 a3 a4 a5 a6 hq1 hq0
          go_loopw [3, 5] (fun i j wr => ∃ (kk k2 : Nat), q + 1 ≤ kk ∧ kk ≤ q + k2 ∧ 1 ≤ k2 ∧ k2 + (q + 1) ≤ n ∧ i = .int .i64 kk ∧ j = .int .i64 k2 ∧ Hid (CompI Q w wr g n sz)) (fun _ j _ => n - (intOf j).toNat)
          case atStart => exact ⟨q + 1, 1, by omega, by omega, by omega, by omega, rfl, rfl, H1⟩
          case round =>
            clear H1
            obtain ⟨kk, k2, b1, b2, b3, b4, rfl, rfl, H⟩ := hrel
            by_cases hl2 : k2 + (q + 1) < n
            · obtain ⟨r, rfl⟩ : ∃ r, k2 = r + 1 := ⟨k2 - 1, by omega⟩
              obtain ⟨cs, h1, h2', h3, h4⟩ := H.out
              obtain ⟨y1, hy1, hz1⟩ := h3.2 (q + 1 + (r + 1)) (by omega)
              obtain ⟨y0, hy0, hz0⟩ := h3.2 (q + 1 + r) (by omega)
              obtain ⟨yk, hyk, hzk⟩ := h3.2 kk (by omega)
              have c1 : wr.cell? ⟨g, q + 1 + (r + 1), none⟩ = some (.int .u64 (y1 : Int)) := by rw [h1.cell]; exact hz1
              have c0 : wr.cell? ⟨g, q + 1 + r, none⟩ = some (.int .u64 (y0 : Int)) := by rw [h1.cell]; exact hz0
              have ck : wr.cell? ⟨g, kk, none⟩ = some (.int .u64 (yk : Int)) := by rw [h1.cell]; exact hzk
              have zk := h1.frozen kk
              have HA : Hid (CompI Q w wr.drew g n sz) := ⟨cs, h1, h2', h3, h4.drew⟩
              have HB : Hid (CompI Q w (wr.setCell ⟨g, kk, none⟩ (.int .u64 (y1 : Int))).drew g n sz) := ⟨_, h1.set_ kk _, by simpa using h2', h3.set kk y1 (by omega) hy1, (h4.setCell (p := ⟨g, kk, none⟩) (.inl rfl) _).drew⟩
              clear h1 h2' h3 h4 hz1 hz0 hzk H
              have a1 : (0 : Int) ≤ (r : Int) + 1 := by omega
              have a2 : (r : Int) + 1 < ((n - (q + 1) : Nat) : Int) := by omega
              have a3 : (r : Int) < ((n - (q + 1) : Nat) : Int) := by omega
              have a4 : (0 : Int) ≤ (r : Int) := by omega
              have a5 : ((r : Int) + 1).toNat = r + 1 := by omega
              have a6 : IntKind.i64.wrap (r : Int) = (r : Int) := by rw [IntKind.wrap_i64]; omega
              have a7 : decide (((r + 1 : Nat) : Int) < ((n - (q + 1) : Nat) : Int)) = true := decide_eq_true (by omega)
              have a8 : (kk : Int) < (n : Int) := by omega
              have a9 : (0 : Int) ≤ (kk : Int) := by omega
              have a10 : decide (r + 1 < n - (q + 1)) = true := decide_eq_true (by omega)
              by_cases hyy : y1 = y0
              · have t1 : ((y1 : Int) != (y0 : Int)) = false := by simp [hyy]
                go_wp2
                go_region
                go_wp2
                exact ⟨⟨kk, r + 2, by omega, by omega, by omega, by omega, rfl, by go_num, HA⟩, by simp [intOf]; omega⟩
              · have t1 : ((y1 : Int) != (y0 : Int)) = true := by rw [bne_iff_ne]; omega
                go_wp2
                go_region
                go_wp2
                exact ⟨⟨kk + 1, r + 2, by omega, by omega, by omega, by omega, by go_num, by go_num, HB⟩, by simp [intOf]; omega⟩
            · obtain ⟨cs, h1, h2', h3, h4⟩ := H.out
              have hcl : ∀ ty, (Builtin.clear_ #[57] ty #[.slice (some ⟨g, kk, none⟩) (n - kk) (cap - kk)]).run Tryz.prog wr = .ok (.tuple #[]) (wr.setCells g kk (List.replicate (n - kk) (.int .u64 0))) := fun ty =>
                Lib.run_clear_slice wr 57 35 ty (.int .u64 0) Tryz.underlying57 (fun _ => by kernel_rfl) rfl rfl g kk (n - kk) (cap - kk) (by omega) (fun j hj => by
                  obtain ⟨x, _, hx⟩ := h3.2 (kk + j) (by omega)
                  rw [h1.cell, hx]; rfl) (fun j _ => h1.frozen _)
              have HE : Hid (CompI Q w (wr.setCells g kk (List.replicate (n - kk) (.int .u64 0))) g kk sz) := by
                obtain ⟨cs', k1, k2', k3⟩ := blk_setCells (List.replicate (n - kk) (Value.int .u64 0)) kk h1
                refine ⟨cs', k1, by omega, ⟨by have := h3.1; omega, fun i hi => ?_⟩, chg_setCells (S := fun k => k = g) rfl _ _ h4⟩
                rw [k3 i hi]
                exact h3.2 i (by omega)
              clear h1 h2' h3 h4 H
              have a7 : decide ((k2 : Int) < ((n - (q + 1) : Nat) : Int)) = false := decide_eq_false (by omega)
              have a10 : decide (k2 < n - (q + 1)) = false := decide_eq_false (by omega)
              have a8 : (kk : Int) ≤ (n : Int) := by omega
              have a9 : (0 : Int) ≤ (kk : Int) := by omega
              have a11 : (kk : Int) ≤ (cap : Int) := by omega
              have a12 : ¬ cap = kk := by omega
              have a13 : ¬ kk = cap := by omega
              go_wp2
              go_ret
              exact ⟨kk, rfl, by omega, HE.out⟩
        · have t1 : ((x1 : Int) == (x0 : Int)) = false := by rw [beq_eq_false_iff_ne]; omega
          go_wp2
          go_region
          go_wp2
          exact ⟨⟨q + 2, by omega, by omega, by go_num, H1⟩, by simp [intOf]; omega⟩
      · obtain rfl : n = k := by omega
        go_wp2
        go_ret
        exact ⟨n, rfl, Nat.le_refl _, H.out⟩
end Go.Proofs.YtklpeghhgoeeiaaGreatDoor
