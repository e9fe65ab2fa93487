/- The walks and laws that the claim leans on, part 7: each part says ahead of its lines what it holds. -/
import Derived.Test.YtklpeghhgoeeiaaGreatDoorKaf
import Derived.BigRegion
import Derived.Lib.SliceRun
/- slices.breakPatternsOrdered at words: the row is permuted. -/
namespace Go.Proofs.YtklpeghhgoeeiaaGreatDoor
open Go.RowKit
def RetPow (l : Nat) (w : World) (e : Ending) (w' : World) : Prop := ∃ M : Nat, e = .returned (.int .u64 (M : Int)) ∧ 1 ≤ M ∧ M ≤ 2 * l ∧ w' = w
set_option maxRecDepth 100000 in
set_option maxHeartbeats 2000000 in
theorem nextPow_any (l : Nat) (h0 : 0 < l) (h : l ≤ 1000000) (w : World) :
    Calls Tryz.prog 256 #[.int .i64 (l : Int)] w (RetPow l w) := by
  have HLn := Lib.hid (len_any l w h)
  have e1 : IntKind.u64.wrap (l : Int) = (l : Int) := by rw [IntKind.wrap_u64]; omega
  obtain ⟨hb, hk⟩ := bitLen_two l h0 h
  have h1 : 1 ≤ 2 ^ Lib.bitLen l := Nat.two_pow_pos _
  generalize Lib.bitLen l = k at *
  obtain ⟨M, hM⟩ : ∃ M : Nat, M = 2 ^ k := ⟨_, rfl⟩
  have hp : IntKind.u64.wrap ((2 : Int) ^ k) = (M : Int) := by
    rw [IntKind.wrap_u64, show ((2 : Int) ^ k) = ((2 ^ k : Nat) : Int) by push_cast; rfl, ← hM]
    omega
  rw [← hM] at hb h1
  clear hM
  go_enter Tryz.func256, Tryz.ntmps256
  go_wp2_with (first
    | (go_at_call 185; refine HLn.out.mono ?_; rintro e w' ⟨rfl, rfl⟩))
  go_ret
  exact ⟨M, rfl, h1, hb, rfl⟩
/-- The row, and the generator's block. -/
structure RanI (w wr : World) (g : Nat) (xs : List Nat) (sz s : Nat) : Prop where
  row : SortI w wr g xs sz
  new : w.heap.size ≤ s
  ne : s ≠ g
  ran : ∃ z : Nat, z < 18446744073709551616 ∧ Blk wr s 324 #[.int .u64 (z : Int)]
theorem RanI.next {w wr : World} {g sz s : Nat} {xs : List Nat} (h : RanI w wr g xs sz s) (v : Nat) (hv : v < 18446744073709551616) : RanI w ((wr.setCell ⟨s, 0, none⟩ (.int .u64 (v : Int))).drewN 3) g xs sz s := by
  obtain ⟨z, _, hB⟩ := h.ran
  exact ⟨(h.row.other h.new h.ne _).drewN 3, h.new, h.ne, v, hv, (hB.set_ 0 _).drewN 3⟩
theorem RanI.swap {w wr : World} {g sz s : Nat} {xs : List Nat} (h : RanI w wr g xs sz s) {i j x y : Nat} (hi : i < xs.length) (hj : j < xs.length) (hx : wr.cell? ⟨g, i, none⟩ = some (.int .u64 (x : Int))) (hy : wr.cell? ⟨g, j, none⟩ = some (.int .u64 (y : Int))) :
    RanI w (((wr.setCell ⟨g, i, none⟩ (.int .u64 (y : Int))).setCell ⟨g, j, none⟩ (.int .u64 (x : Int)))).drew g xs sz s := by
  obtain ⟨z, hz, hB⟩ := h.ran
  exact ⟨(h.row.swap hi hj hx hy).drew, h.new, h.ne, z, hz, ((hB.far h.ne _).far h.ne _).drew⟩
theorem RanI.start {w : World} {g sz : Nat} {xs : List Nat} (h : SortI w w g xs sz) (l : Nat) (hl : l < 18446744073709551616) : RanI w (w.alloc (.cells #[.int .u64 (l : Int)] 324)) g xs sz w.heap.size := by
  have hg : g < w.heap.size := by obtain ⟨cs, ys, h1, _⟩ := h; exact h1.lt
  refine ⟨?_, Nat.le_refl _, by omega, l, hl, Blk.new _ _ _⟩
  obtain ⟨cs, ys, h1, h2, h3, h4, h5⟩ := h
  exact ⟨cs, ys, h1.alloc _, h2, h3, h4, h5.below ((Below.refl _ w).alloc (Nat.le_refl _) _)⟩
set_option maxRecDepth 100000 in
set_option maxHeartbeats 2000000 in
theorem breakP_any (g n cap sz a l : Nat) (xs : List Nat) (w : World) (h : SortI w w g xs sz) (hl : xs.length = n) (hb : a + l ≤ n) (h8 : 8 ≤ l) (hn : n ≤ 1000000) (hc : n ≤ cap) (hcm : cap ≤ 9223372036854775807) :
    Calls Tryz.prog 222 #[.slice (some ⟨g, 0, none⟩) n cap, .int .i64 (a : Int), .int .i64 ((a + l : Nat) : Int)] w (RetSort w g xs sz) := by
  have HR := Lib.hid (RanI.start h l (by omega))
  have HL := Lib.hid hl
  have HP := Lib.hid (nextPow_any l (by omega) (by omega))
  have e1 : IntKind.u64.wrap (l : Int) = (l : Int) := by rw [IntKind.wrap_u64]; omega
  clear h hl
  go_enter Tryz.func222, Tryz.ntmps222
  go_wp2_with fail
  rw [show ((a : Int) + (l : Int) - (a : Int)) = (l : Int) by omega]
  refine (HP.out _).mono ?_
  rintro e w1 ⟨M, rfl, hM1, hM2, rfl⟩
  clear HP
  generalize w.alloc (.cells #[.int .u64 (l : Int)] 324) = W at *
  go_wp2_with fail
  go_loopw [9] (fun vi wr => ∃ P : Nat, vi = .int .i64 (P : Int) ∧ a + l / 4 * 2 ≤ P + 1 ∧ P ≤ a + l / 4 * 2 + 2 ∧ Hid (RanI w wr g xs sz w.heap.size)) (fun vi _ => a + l / 4 * 2 + 3 - (intOf vi).toNat)
  case atStart => exact ⟨a + l / 4 * 2 - 1, by congr 1; omega, by omega, by omega, HR⟩
  case round =>
    clear HR
    obtain ⟨P, rfl, hP1, hP2, HR⟩ := hrel
    by_cases hP : P ≤ a + l / 4 * 2 + 1
    · have e2 : decide ((P : Int) ≤ (a : Int) + (l : Int) / 4 * 2 + 1) = true := decide_eq_true (by omega)
      obtain ⟨z, hz, hB⟩ := HR.out.ran
      have HN := Lib.hid (next_any w.heap.size z hz wr (hB.cell 0) (hB.frozen 0))
      have e3 : (P : Int) < (n : Int) := by omega
      clear hB hz
      go_wp2_with fail
      refine HN.out.mono ?_
      rintro e w2 ⟨R, hR, rfl, rfl⟩
      obtain ⟨O, hO⟩ : ∃ O : Nat, O = R &&& (M - 1) := ⟨_, rfl⟩
      have lO : O ≤ M - 1 := by rw [hO]; exact Nat.and_le_right
      have eAnd : bits .and .u64 (R : Int) ((M : Int) - 1) = (O : Int) := by
        rw [show ((M : Int) - 1) = ((M - 1 : Nat) : Int) by omega, bits_and_u64_nat _ _ hR (by omega), hO]
      have HR2 := Lib.hid (HR.out.next R hR)
      clear hO HN HR
      generalize (wr.setCell ⟨w.heap.size, 0, none⟩ (.int .u64 (R : Int))).drewN 3 = wr at *
      by_cases hLO : l ≤ O
      · have e4 : decide ((l : Int) ≤ (O : Int)) = true := decide_eq_true (by omega)
        obtain ⟨K, hK⟩ : ∃ K : Nat, K = a + (O - l) := ⟨_, rfl⟩
        have k1 : (0 : Int) ≤ (a : Int) + ((O : Int) - (l : Int)) := by omega
        have k2 : (a : Int) + ((O : Int) - (l : Int)) < (n : Int) := by omega
        have k3 : ((a : Int) + ((O : Int) - (l : Int))).toNat = K := by omega
        clear hK
        go_wp2_with fail
        obtain ⟨x1, c1, z1⟩ := HR2.out.row.at_ (i := P) (by have := HL.out; omega)
        obtain ⟨x2, c2, z2⟩ := HR2.out.row.at_ (i := K) (by have := HL.out; omega)
        obtain ⟨x3, c3⟩ := HR2.out.row.mid (i := P) (j := K) (by have := HL.out; omega) (.int .u64 (x2 : Int))
        have H1 := Lib.hid (HR2.out.swap (by have := HL.out; omega) (by have := HL.out; omega) c1 c2)
        clear HR2
        by_cases hEq : P = K
        · subst hEq
          obtain rfl : x1 = x2 := by
            rw [c1] at c2
            simp at c2
            omega
          go_region
          clear c1 c2 c3 z1 z2
          go_wp2_with fail
          go_roundw
          case rel => exact ⟨P + 1, by go_num, by omega, by omega, H1⟩
          case measure => simp [intOf]; omega
        · go_region
          clear c1 c2 c3 z1 z2
          go_wp2_with fail
          go_roundw
          case rel => exact ⟨P + 1, by go_num, by omega, by omega, H1⟩
          case measure => simp [intOf]; omega
      · have e4 : decide ((l : Int) ≤ (O : Int)) = false := decide_eq_false (by omega)
        obtain ⟨K, hK⟩ : ∃ K : Nat, K = a + O := ⟨_, rfl⟩
        have k1 : (0 : Int) ≤ (a : Int) + (O : Int) := by omega
        have k2 : (a : Int) + (O : Int) < (n : Int) := by omega
        have k3 : ((a : Int) + (O : Int)).toNat = K := by omega
        clear hK
        go_wp2_with fail
        obtain ⟨x1, c1, z1⟩ := HR2.out.row.at_ (i := P) (by have := HL.out; omega)
        obtain ⟨x2, c2, z2⟩ := HR2.out.row.at_ (i := K) (by have := HL.out; omega)
        obtain ⟨x3, c3⟩ := HR2.out.row.mid (i := P) (j := K) (by have := HL.out; omega) (.int .u64 (x2 : Int))
        have H1 := Lib.hid (HR2.out.swap (by have := HL.out; omega) (by have := HL.out; omega) c1 c2)
        clear HR2
        by_cases hEq : P = K
        · subst hEq
          obtain rfl : x1 = x2 := by
            rw [c1] at c2
            simp at c2
            omega
          go_region
          clear c1 c2 c3 z1 z2
          go_wp2_with fail
          go_roundw
          case rel => exact ⟨P + 1, by go_num, by omega, by omega, H1⟩
          case measure => simp [intOf]; omega
        · go_region
          clear c1 c2 c3 z1 z2
          go_wp2_with fail
          go_roundw
          case rel => exact ⟨P + 1, by go_num, by omega, by omega, H1⟩
          case measure => simp [intOf]; omega
    · have e2 : decide ((P : Int) ≤ (a : Int) + (l : Int) / 4 * 2 + 1) = false := decide_eq_false (by omega)
      go_wp2_with fail
      go_end0
      exact ⟨rfl, HR.out.row⟩
end Go.Proofs.YtklpeghhgoeeiaaGreatDoor
/- slices.pdqsortOrdered and slices.Sort at words, any length: the row is permuted. -/
namespace Go.Proofs.YtklpeghhgoeeiaaGreatDoor
open Go.RowKit
theorem choose_b (g n cap sz a b : Nat) (xs : List Nat) (w : World) (h : SortI w w g xs sz) (hl : xs.length = n) (hb : b ≤ n) (h8 : a + 8 ≤ b) (hn : n ≤ 1000000) :
    Calls Tryz.prog 223 #[.slice (some ⟨g, 0, none⟩) n cap, .int .i64 (a : Int), .int .i64 (b : Int)] w (RetCh w g xs sz a b) := by
  obtain ⟨l, rfl⟩ : ∃ l, b = a + l := ⟨b - a, by omega⟩
  exact choose_any g n cap sz a l xs w h hl hb (by omega) hn
theorem break_b (g n cap sz a b : Nat) (xs : List Nat) (w : World) (h : SortI w w g xs sz) (hl : xs.length = n) (hb : b ≤ n) (h8 : a + 8 ≤ b) (hn : n ≤ 1000000) (hc : n ≤ cap) (hcm : cap ≤ 9223372036854775807) :
    Calls Tryz.prog 222 #[.slice (some ⟨g, 0, none⟩) n cap, .int .i64 (a : Int), .int .i64 (b : Int)] w (RetSort w g xs sz) := by
  obtain ⟨l, rfl⟩ : ∃ l, b = a + l := ⟨b - a, by omega⟩
  exact breakP_any g n cap sz a l xs w h hl hb (by omega) hn hc hcm
theorem heap_b (g n cap sz a b : Nat) (xs : List Nat) (w : World) (h : SortI w w g xs sz) (hl : xs.length = n) (hb : b ≤ n) (h8 : a + 1 ≤ b) (hn : n ≤ 1000000) (hc : n ≤ cap) (hcm : cap ≤ 9223372036854775807) :
    Calls Tryz.prog 221 #[.slice (some ⟨g, 0, none⟩) n cap, .int .i64 (a : Int), .int .i64 (b : Int)] w (RetSort w g xs sz) := by
  obtain ⟨l, rfl⟩ : ∃ l, b = a + (l + 1) := ⟨b - a - 1, by omega⟩
  exact heap_any g n cap sz a l xs w h hl hb hn hc hcm
def RetCh' (w : World) (g : Nat) (xs : List Nat) (sz a b : Nat) (e : Ending) (w' : World) : Prop := RetCh w g xs sz a b e w'
/-- pdqsort over every shorter range. -/
def PdqB (g n cap sz : Nat) (xs : List Nat) (d : Nat) : Prop := ∀ (a b lm : Nat) (w : World), SortI w w g xs sz → a ≤ b → b ≤ n → b - a < d → lm ≤ 64 →
    Calls Tryz.prog 184 #[.slice (some ⟨g, 0, none⟩) n cap, .int .i64 (a : Int), .int .i64 (b : Int), .int .i64 (lm : Int)] w (RetSort w g xs sz)
set_option maxRecDepth 100000 in
set_option maxHeartbeats 2000000 in
theorem pdq_step (g n cap sz a0 b0 lm0 : Nat) (xs : List Nat) (w : World) (h : SortI w w g xs sz) (hl : xs.length = n) (hab0 : a0 ≤ b0) (hb0 : b0 ≤ n) (hlm0 : lm0 ≤ 64) (hn : n ≤ 1000000) (hc : n ≤ cap) (hcm : cap ≤ 9223372036854775807) (ih : PdqB g n cap sz xs (b0 - a0)) :
    Calls Tryz.prog 184 #[.slice (some ⟨g, 0, none⟩) n cap, .int .i64 (a0 : Int), .int .i64 (b0 : Int), .int .i64 (lm0 : Int)] w (RetSort w g xs sz) := by
  have H := Lib.hid h
  have HL := Lib.hid hl
  have IH := Lib.hid ih
  clear h hl ih
  go_enter Tryz.func184, Tryz.ntmps184
  go_wp2
  go_loopw [1, 2, 3, 8, 9] (fun va vb vl v8 v9 wr => ∃ (a b lm : Nat) (p q : Bool), va = .int .i64 (a : Int) ∧ vb = .int .i64 (b : Int) ∧ vl = .int .i64 (lm : Int) ∧ v8 = .bool p ∧ v9 = .bool q ∧ a ≤ b ∧ b ≤ n ∧ lm ≤ 64 ∧ b - a ≤ b0 - a0 ∧ Hid (SortI w wr g xs sz)) (fun va vb _ _ _ _ => (intOf vb).toNat - (intOf va).toNat)
  case atStart => exact ⟨a0, b0, lm0, true, true, rfl, rfl, rfl, rfl, rfl, hab0, hb0, hlm0, Nat.le_refl _, H⟩
  case round =>
    clear H
    obtain ⟨a, b, lm, p, q, rfl, rfl, rfl, rfl, rfl, hab, hb, hlm, hd, H⟩ := hrel
    by_cases h12 : b - a ≤ 12
    · have e1 : decide ((b : Int) - (a : Int) ≤ 12) = true := decide_eq_true (by omega)
      have HI := Lib.hid (insertR_any g n cap sz a b xs wr H.out.self HL.out hab hb hn hc hcm)
      go_wp2_with fail
      refine HI.out.mono ?_
      rintro e w1 ⟨rfl, h1⟩
      have H1 := Lib.hid (H.out.trans h1)
      clear h1 HI H
      go_wp2_with fail
      go_end0
      exact ⟨rfl, H1.out⟩
    · have e1 : decide ((b : Int) - (a : Int) ≤ 12) = false := decide_eq_false (by omega)
      by_cases hz : lm = 0
      · subst hz
        have HI := Lib.hid (heap_b g n cap sz a b xs wr H.out.self HL.out hb (by omega) hn hc hcm)
        go_wp2_with fail
        refine HI.out.mono ?_
        rintro e w1 ⟨rfl, h1⟩
        have H1 := Lib.hid (H.out.trans h1)
        clear h1 HI H
        go_wp2_with fail
        go_end0
        exact ⟨rfl, H1.out⟩
      · have e2 : ((lm : Int) == 0) = false := by rw [beq_eq_false_iff_ne]; omega
        obtain ⟨lm', rfl⟩ : ∃ k, lm = k + 1 := ⟨lm - 1, by omega⟩
        have hab8 : a + 8 ≤ b := by omega
        clear h12 hz
        go_upto_if 35 with fail
        go_cut [3] from 19 to 133 (fun v wx => ∃ k : Nat, v = .int .i64 (k : Int) ∧ k ≤ 64 ∧ Hid (SortI w wx g xs sz))
        case first =>
          cases p
          · have HI := Lib.hid (break_b g n cap sz a b xs wr H.out.self HL.out hb hab8 hn hc hcm)
            go_wp2_with fail
            refine HI.out.mono ?_
            rintro e w1 ⟨rfl, h1⟩
            have H1 := Lib.hid (H.out.trans h1)
            clear h1 HI H
            go_wp2_with fail
            go_meet
            exact ⟨lm', by go_num, by omega, H1⟩
          · go_wp2_with fail
            go_meet
            exact ⟨lm' + 1, by go_num, by omega, H⟩
        case rest =>
          clear H hlm e1 e2
          obtain ⟨lm, rfl, hlm, H⟩ := hcut
          have HC := Lib.hid (choose_b g n cap sz a b xs wc H.out.self HL.out hb hab8 hn)
          go_wp2_with fail
          refine HC.out.mono ?_
          rintro e w1 ⟨m0, k0, rfl, hm1, hm2, h1⟩
          have H1 := Lib.hid (H.out.trans h1)
          clear h1 HC H
          go_upto_if 50 with fail
          go_cut [11, 12] from 19 to 133 (fun v u wx => ∃ (m : Nat) (k : Int), v = .int .i64 (m : Int) ∧ u = .int .i64 k ∧ a ≤ m ∧ m < b ∧ Hid (SortI w wx g xs sz))
          case first =>
            by_cases hk : k0 = 2
            · subst hk
              have HR := Lib.hid (reverse_any g n cap sz a b xs w1 H1.out.self HL.out (by omega) hb hn hc hcm)
              obtain ⟨m', hm'⟩ : ∃ m' : Nat, (b : Int) - 1 - ((m0 : Int) - (a : Int)) = (m' : Int) ∧ a ≤ m' ∧ m' < b := ⟨b - 1 - (m0 - a), by omega, by omega, by omega⟩
              have HM := Lib.hid hm'
              clear hm'
              go_wp2_with fail
              refine HR.out.mono ?_
              rintro e w2 ⟨rfl, h2⟩
              have H2 := Lib.hid (H1.out.trans h2)
              clear h2 HR H1
              go_wp2_with fail
              go_meet
              exact ⟨m', 1, by first | rfl | exact congrArg (Value.int .i64) HM.out.1, rfl, HM.out.2.1, HM.out.2.2, H2⟩
            · have e3 : (k0 == 2) = false := by rw [beq_eq_false_iff_ne]; exact hk
              go_wp2_with fail
              go_meet
              exact ⟨m0, k0, rfl, rfl, hm1, hm2, H1⟩
          case rest =>
            clear H1 hm1 hm2
            obtain ⟨m, k, rfl, rfl, hm1, hm2, H⟩ := hcut
            go_upto_region 15 with fail
            go_cut [68] from 19 to 133 (fun v wx => ∃ bb : Bool, v = .bool bb ∧ Hid (SortI w wx g xs sz))
            case first =>
              cases p
              · go_wp2_with fail
                go_meet
                exact ⟨false, rfl, H⟩
              · cases q
                · go_wp2_with fail
                  go_meet
                  exact ⟨false, rfl, H⟩
                · go_wp2_with fail
                  go_meet
                  exact ⟨_, rfl, H⟩
            case rest =>
              clear H
              obtain ⟨bb, rfl, H⟩ := hcut
              go_upto_if 68 with fail
              go_cut [13] from 19 to 133 (fun _ wx => Hid (SortI w wx g xs sz))
              case first =>
                cases bb
                · go_wp2_with fail
                  go_meet
                  exact H
                · have HT := Lib.hid (partialIns_any g n cap sz a b xs wc H.out.self HL.out (by omega) hb hn hc hcm)
                  go_wp2_with fail
                  refine HT.out.mono ?_
                  rintro e w2 ⟨c, rfl, h2⟩
                  have H2 := Lib.hid (H.out.trans h2)
                  clear h2 HT H
                  cases c
                  · go_wp2_with fail
                    go_meet
                    exact H2
                  · go_wp2_with fail
                    go_end0
                    exact ⟨rfl, H2.out⟩
              case rest =>
                clear H
                have H := hcut
                clear hcut
                go_upto_region 17 with fail
                go_cut [87] from 19 to 133 (fun v wx => ∃ bb : Bool, v = .bool bb ∧ Hid (SortI w wx g xs sz))
                case first =>
                  by_cases ha : 0 < a
                  · obtain ⟨a', rfl⟩ : ∃ a', a = a' + 1 := ⟨a - 1, by omega⟩
                    have f0 : decide ((0 : Int) < (a' : Int) + 1) = true := decide_eq_true (by omega)
                    have f1 : (a' : Int) < (n : Int) := by omega
                    have f2 : (m : Int) < (n : Int) := by omega
                    have f3 : IntKind.i64.wrap (a' : Int) = (a' : Int) := by rw [IntKind.wrap_i64]; omega
                    generalize wc = wr at *
                    go_wp2_with fail
                    obtain ⟨x1, c1, z1⟩ := H.out.at_ (i := a') (by have := HL.out; omega)
                    obtain ⟨x2, c2, z2⟩ := H.out.at_ (i := m) (by have := HL.out; omega)
                    obtain ⟨bb, HLs⟩ := less_some x1 x2
                    go_quiet ((go_at_call 226; exact Calls.quiet_of_same (HLs.out _)))
                    have H1 := Lib.hid (H.out.drewN nq)
                    clear c1 c2 z1 z2 H
                    go_wp2_with fail
                    go_meet
                    exact ⟨_, rfl, H1⟩
                  · have f0 : decide ((0 : Int) < (a : Int)) = false := decide_eq_false (by omega)
                    go_quiet (fail)
                    have H1 := Lib.hid (H.out.drewN nq)
                    go_wp2_with fail
                    go_meet
                    exact ⟨false, rfl, H1⟩
                case rest =>
                  clear H
                  obtain ⟨bb, rfl, H⟩ := hcut
                  cases bb
                  · have HP := Lib.hid (partition_any g n cap sz a b m xs wc H.out.self HL.out (by omega) hb hm2 hn hc hcm)
                    go_wp2_with fail
                    refine HP.out.mono ?_
                    rintro e w2 ⟨m2, c, rfl, g1, g2, h2⟩
                    have H2 := Lib.hid (H.out.trans h2)
                    clear h2 HP H
                    have I1 := Lib.hid (IH.out a m2 lm w2 H2.out.self g1 (by omega) (by omega) hlm)
                    have i2 := IH.out (m2 + 1) b lm w2 H2.out.self (by omega) hb (by omega) hlm
                    rw [show ((m2 + 1 : Nat) : Int) = (m2 : Int) + 1 by omega] at i2
                    have I2 := Lib.hid i2
                    clear i2
                    by_cases hlr : m2 - a < b - m2
                    · have e3 : decide ((m2 : Int) - (a : Int) < (b : Int) - (m2 : Int)) = true := decide_eq_true (by omega)
                      go_wp2_with fail
                      refine I1.out.mono ?_
                      rintro e w3 ⟨rfl, h3⟩
                      have H3 := Lib.hid (H2.out.trans h3)
                      clear h3 H2 I1 I2
                      go_wp2_with fail
                      go_roundw
                      case rel => exact ⟨m2 + 1, b, lm, _, c, by go_num, rfl, rfl, rfl, rfl, by omega, hb, hlm, by omega, H3⟩
                      case measure => simp [intOf]; omega
                    · have e3 : decide ((m2 : Int) - (a : Int) < (b : Int) - (m2 : Int)) = false := decide_eq_false (by omega)
                      go_wp2_with fail
                      refine I2.out.mono ?_
                      rintro e w3 ⟨rfl, h3⟩
                      have H3 := Lib.hid (H2.out.trans h3)
                      clear h3 H2 I1 I2
                      go_wp2_with fail
                      go_roundw
                      case rel => exact ⟨a, m2, lm, _, c, rfl, rfl, rfl, rfl, rfl, g1, by omega, hlm, by omega, H3⟩
                      case measure => simp [intOf]; omega
                  · have HP := Lib.hid (partEqual_any g n cap sz a b m xs wc H.out.self HL.out (by omega) hb hm2 hn hc hcm)
                    go_wp2_with fail
                    refine HP.out.mono ?_
                    rintro e w2 ⟨m2, rfl, g1, g2, h2⟩
                    have H2 := Lib.hid (H.out.trans h2)
                    clear h2 HP H
                    go_wp2_with fail
                    go_roundw
                    case rel => exact ⟨m2, b, lm, p, q, rfl, rfl, rfl, rfl, rfl, g2, hb, hlm, by omega, H2⟩
                    case measure => simp [intOf]; omega
theorem pdq_any (g n cap sz : Nat) (xs : List Nat) (hl : xs.length = n) (hn : n ≤ 1000000) (hc : n ≤ cap) (hcm : cap ≤ 9223372036854775807) : ∀ d, PdqB g n cap sz xs d
  | 0 => fun a b lm w h hab hb hd hlm => absurd hd (by omega)
  | d + 1 => fun a b lm w h hab hb hd hlm => pdq_step g n cap sz a b lm xs w h hl hab hb hlm hn hc hcm (fun a' b' lm' w' h' k1 k2 k3 k4 => pdq_any g n cap sz xs hl hn hc hcm d a' b' lm' w' h' k1 k2 (by omega) k4)
set_option maxRecDepth 100000 in
set_option maxHeartbeats 2000000 in
theorem sort_any (g n cap sz : Nat) (xs : List Nat) (w : World) (h : SortI w w g xs sz) (hl : xs.length = n) (hn : n ≤ 1000000) (hc : n ≤ cap) (hcm : cap ≤ 9223372036854775807) :
    Calls Tryz.prog 127 #[.slice (some ⟨g, 0, none⟩) n cap] w (RetSort w g xs sz) := by
  have e1 : IntKind.u64.wrap (n : Int) = (n : Int) := by rw [IntKind.wrap_u64]; omega
  have HLn := Lib.hid (len_any n w hn)
  have hk : Lib.bitLen n ≤ 20 := Lib.bitLen_le n 20 (by omega) (by omega)
  have HP := Lib.hid (pdq_any g n cap sz xs hl hn hc hcm (n + 1) 0 n (Lib.bitLen n) w h (by omega) (Nat.le_refl _) (by omega) (by omega))
  generalize Lib.bitLen n = k at *
  clear h hl
  go_enter Tryz.func127, Tryz.ntmps127
  go_wp2_with (first
    | (go_at_call 185; refine HLn.out.mono ?_; rintro e w' ⟨rfl, rfl⟩)
    | (go_at_call 184; refine HP.out.mono ?_; rintro e w1 ⟨rfl, h1⟩; have H1 := Lib.hid h1; clear h1))
  go_end0
  exact ⟨rfl, H1.out⟩
end Go.Proofs.YtklpeghhgoeeiaaGreatDoor
/- slices.Sort of words under its older name. -/
namespace Go.Proofs.YtklpeghhgoeeiaaGreatDoor
open Go.RowKit
theorem sort_small (g n cap sz : Nat) (xs : List Nat) (w : World) (h : SortI w w g xs sz) (hl : xs.length = n) (hn : n ≤ 1000000) (hc : n ≤ cap) (hcm : cap ≤ 9223372036854775807) :
    Calls Tryz.prog 127 #[.slice (some ⟨g, 0, none⟩) n cap] w (RetSort w g xs sz) := sort_any g n cap sz xs w h hl hn hc hcm
end Go.Proofs.YtklpeghhgoeeiaaGreatDoor
/- slices.Compact of words: of the elements some are left. -/
namespace Go.Proofs.YtklpeghhgoeeiaaGreatDoor
open Go.RowKit
/-- The first n words of a row satisfy Q. -/
def RowQ (Q : Nat → Prop) (cs : Array Value) (n : Nat) : Prop := n ≤ cs.size ∧ ∀ i, i < n → ∃ x : Nat, Q x ∧ cs[i]? = some (.int .u64 (x : Int))
theorem RowQ.set {Q : Nat → Prop} {cs : Array Value} {n : Nat} (h : RowQ Q cs n) (j x : Nat) (hj : j < n) (hx : Q x) : RowQ Q (cs.setIfInBounds j (.int .u64 (x : Int))) n := by
  refine ⟨by simpa using h.1, fun i hi => ?_⟩
  rw [set_at i (by have := h.1; omega)]
  by_cases hij : i = j
  · rw [if_pos hij]; exact ⟨x, hx, rfl⟩
  · rw [if_neg hij]; exact h.2 i hi
theorem blk_setCells {g : Nat} {t : TypeId} : ∀ (vs : List Value) (o : Nat) {w : World} {cs : Array Value}, Blk w g t cs → ∃ cs', Blk (w.setCells g o vs) g t cs' ∧ cs'.size = cs.size ∧ ∀ i, i < o → cs'[i]? = cs[i]?
  | [], _, _, cs, h => ⟨cs, h, rfl, fun _ _ => rfl⟩
  | v :: r, o, w, cs, h => by
    obtain ⟨cs', h1, h2, h3⟩ := blk_setCells r (o + 1) (h.set_ o v)
    refine ⟨cs', h1, by simpa using h2, fun i hi => ?_⟩
    rw [h3 i (by omega), Array.getElem?_setIfInBounds_ne (by omega)]
theorem chg_setCells {g : Nat} {S : Fp} {w0 : World} (hS : S g) : ∀ (vs : List Value) (o : Nat) {w : World}, Chg S w0 w → Chg S w0 (w.setCells g o vs)
  | [], _, _, h => h
  | v :: r, o, _, h => chg_setCells hS r (o + 1) (h.setCell (p := ⟨g, o, none⟩) (.inl hS) v)
def CompI (Q : Nat → Prop) (w wr : World) (g n sz : Nat) : Prop := ∃ cs, Blk wr g 35 cs ∧ cs.size = sz ∧ RowQ Q cs n ∧ Chg (fun k => k = g) w wr
def RetComp (Q : Nat → Prop) (w : World) (g n cap sz : Nat) (e : Ending) (w' : World) : Prop := ∃ m, e = .returned (.slice (some ⟨g, 0, none⟩) m cap) ∧ m ≤ n ∧ CompI Q w w' g m sz
set_option maxRecDepth 100000 in
set_option maxHeartbeats 8000000 in
theorem compact_any (Q : Nat → Prop) (g n cap sz : Nat) (w : World) (h : CompI Q w w g n sz) (hn : n ≤ 1000000) (hc : n ≤ cap) (hcm : cap ≤ 9223372036854775807) :
    Calls Tryz.prog 144 #[.slice (some ⟨g, 0, none⟩) n cap] w (RetComp Q w g n cap sz) := by
  have H0 := Lib.hid h
  clear h
  by_cases h2 : n < 2
  · have e1 : decide ((n : Int) < 2) = true := decide_eq_true (by omega)
    have e2 : decide (n < 2) = true := decide_eq_true h2
    go_enter Tryz.func144, Tryz.ntmps144
    go_wp2
    go_ret
    exact ⟨n, rfl, Nat.le_refl _, H0.out⟩
  · have e1 : decide ((n : Int) < 2) = false := decide_eq_false (by omega)
    have e2 : decide (n < 2) = false := decide_eq_false h2
    go_enter Tryz.func144, Tryz.ntmps144
    go_wp2
    go_loopw [3] (fun i wr => ∃ (k : Nat), 1 ≤ k ∧ k ≤ n ∧ i = .int .i64 k ∧ Hid (CompI Q w wr g n sz)) (fun i _ => n - (intOf i).toNat)
    case atStart => exact ⟨1, by omega, by omega, rfl, H0⟩
    case round =>
      clear H0
      obtain ⟨k, hk1, hk, rfl, H⟩ := hrel
      by_cases hlt : k < n
      · obtain ⟨q, rfl⟩ : ∃ q, k = q + 1 := ⟨k - 1, by omega⟩
        obtain ⟨cs, h1, h2', h3, h4⟩ := H.out
        obtain ⟨x1, hq1, hx1⟩ := h3.2 (q + 1) hlt
        obtain ⟨x0, hq0, hx0⟩ := h3.2 q (by omega)
        have c1 : wr.cell? ⟨g, q + 1, none⟩ = some (.int .u64 (x1 : Int)) := by rw [h1.cell]; exact hx1
        have c0 : wr.cell? ⟨g, q, none⟩ = some (.int .u64 (x0 : Int)) := by rw [h1.cell]; exact hx0
        have H1 : Hid (CompI Q w wr.drew g n sz) := ⟨cs, h1, h2', h3, h4.drew⟩
        clear h1 h2' h3 h4 hx1 hx0 H
        have a1 : (0 : Int) ≤ (q : Int) + 1 := by omega
        have a2 : (q : Int) + 1 < (n : Int) := by omega
        have a3 : (q : Int) < (n : Int) := by omega
        have a4 : (0 : Int) ≤ (q : Int) := by omega
        have a5 : ((q : Int) + 1).toNat = q + 1 := by omega
        have a6 : IntKind.i64.wrap (q : Int) = (q : Int) := by rw [IntKind.wrap_i64]; omega
        by_cases hxx : x1 = x0
        · have t1 : ((x1 : Int) == (x0 : Int)) = true := by rw [beq_iff_eq]; omega
          go_wp2
          go_region
          go_wp2
          clear t1 c1 c0 a1 a2 a3 a4 a5 a6 hq1 hq0
          go_loopw [3, 5] (fun i j wr => ∃ (kk k2 : Nat), q + 1 ≤ kk ∧ kk ≤ q + k2 ∧ 1 ≤ k2 ∧ k2 + (q + 1) ≤ n ∧ i = .int .i64 kk ∧ j = .int .i64 k2 ∧ Hid (CompI Q w wr g n sz)) (fun _ j _ => n - (intOf j).toNat)
          case atStart => exact ⟨q + 1, 1, by omega, by omega, by omega, by omega, rfl, rfl, H1⟩
          case round =>
            clear H1
            obtain ⟨kk, k2, b1, b2, b3, b4, rfl, rfl, H⟩ := hrel
            by_cases hl2 : k2 + (q + 1) < n
            · obtain ⟨r, rfl⟩ : ∃ r, k2 = r + 1 := ⟨k2 - 1, by omega⟩
              obtain ⟨cs, h1, h2', h3, h4⟩ := H.out
              obtain ⟨y1, hy1, hz1⟩ := h3.2 (q + 1 + (r + 1)) (by omega)
              obtain ⟨y0, hy0, hz0⟩ := h3.2 (q + 1 + r) (by omega)
              obtain ⟨yk, hyk, hzk⟩ := h3.2 kk (by omega)
              have c1 : wr.cell? ⟨g, q + 1 + (r + 1), none⟩ = some (.int .u64 (y1 : Int)) := by rw [h1.cell]; exact hz1
              have c0 : wr.cell? ⟨g, q + 1 + r, none⟩ = some (.int .u64 (y0 : Int)) := by rw [h1.cell]; exact hz0
              have ck : wr.cell? ⟨g, kk, none⟩ = some (.int .u64 (yk : Int)) := by rw [h1.cell]; exact hzk
              have zk := h1.frozen kk
              have HA : Hid (CompI Q w wr.drew g n sz) := ⟨cs, h1, h2', h3, h4.drew⟩
              have HB : Hid (CompI Q w (wr.setCell ⟨g, kk, none⟩ (.int .u64 (y1 : Int))).drew g n sz) := ⟨_, h1.set_ kk _, by simpa using h2', h3.set kk y1 (by omega) hy1, (h4.setCell (p := ⟨g, kk, none⟩) (.inl rfl) _).drew⟩
              clear h1 h2' h3 h4 hz1 hz0 hzk H
              have a1 : (0 : Int) ≤ (r : Int) + 1 := by omega
              have a2 : (r : Int) + 1 < ((n - (q + 1) : Nat) : Int) := by omega
              have a3 : (r : Int) < ((n - (q + 1) : Nat) : Int) := by omega
              have a4 : (0 : Int) ≤ (r : Int) := by omega
              have a5 : ((r : Int) + 1).toNat = r + 1 := by omega
              have a6 : IntKind.i64.wrap (r : Int) = (r : Int) := by rw [IntKind.wrap_i64]; omega
              have a7 : decide (((r + 1 : Nat) : Int) < ((n - (q + 1) : Nat) : Int)) = true := decide_eq_true (by omega)
              have a8 : (kk : Int) < (n : Int) := by omega
              have a9 : (0 : Int) ≤ (kk : Int) := by omega
              have a10 : decide (r + 1 < n - (q + 1)) = true := decide_eq_true (by omega)
              by_cases hyy : y1 = y0
              · have t1 : ((y1 : Int) != (y0 : Int)) = false := by simp [hyy]
                go_wp2
                go_region
                go_wp2
                exact ⟨⟨kk, r + 2, by omega, by omega, by omega, by omega, rfl, by go_num, HA⟩, by simp [intOf]; omega⟩
              · have t1 : ((y1 : Int) != (y0 : Int)) = true := by rw [bne_iff_ne]; omega
                go_wp2
                go_region
                go_wp2
                exact ⟨⟨kk + 1, r + 2, by omega, by omega, by omega, by omega, by go_num, by go_num, HB⟩, by simp [intOf]; omega⟩
            · obtain ⟨cs, h1, h2', h3, h4⟩ := H.out
              have hcl : ∀ ty, (Builtin.clear_ #[57] ty #[.slice (some ⟨g, kk, none⟩) (n - kk) (cap - kk)]).run Tryz.prog wr = .ok (.tuple #[]) (wr.setCells g kk (List.replicate (n - kk) (.int .u64 0))) := fun ty =>
                Lib.run_clear_slice wr 57 35 ty (.int .u64 0) Tryz.underlying57 (fun _ => by kernel_rfl) rfl rfl g kk (n - kk) (cap - kk) (by omega) (fun j hj => by
                  obtain ⟨x, _, hx⟩ := h3.2 (kk + j) (by omega)
                  rw [h1.cell, hx]; rfl) (fun j _ => h1.frozen _)
              have HE : Hid (CompI Q w (wr.setCells g kk (List.replicate (n - kk) (.int .u64 0))) g kk sz) := by
                obtain ⟨cs', k1, k2', k3⟩ := blk_setCells (List.replicate (n - kk) (Value.int .u64 0)) kk h1
                refine ⟨cs', k1, by omega, ⟨by have := h3.1; omega, fun i hi => ?_⟩, chg_setCells (S := fun k => k = g) rfl _ _ h4⟩
                rw [k3 i hi]
                exact h3.2 i (by omega)
              clear h1 h2' h3 h4 H
              have a7 : decide ((k2 : Int) < ((n - (q + 1) : Nat) : Int)) = false := decide_eq_false (by omega)
              have a10 : decide (k2 < n - (q + 1)) = false := decide_eq_false (by omega)
              have a8 : (kk : Int) ≤ (n : Int) := by omega
              have a9 : (0 : Int) ≤ (kk : Int) := by omega
              have a11 : (kk : Int) ≤ (cap : Int) := by omega
              have a12 : ¬ cap = kk := by omega
              have a13 : ¬ kk = cap := by omega
              go_wp2
              go_ret
              exact ⟨kk, rfl, by omega, HE.out⟩
        · have t1 : ((x1 : Int) == (x0 : Int)) = false := by rw [beq_eq_false_iff_ne]; omega
          go_wp2
          go_region
          go_wp2
          exact ⟨⟨q + 2, by omega, by omega, by go_num, H1⟩, by simp [intOf]; omega⟩
      · obtain rfl : n = k := by omega
        go_wp2
        go_ret
        exact ⟨n, rfl, Nat.le_refl _, H.out⟩
end Go.Proofs.YtklpeghhgoeeiaaGreatDoor
