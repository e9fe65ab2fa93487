/- Walks: awake. -/
import Derived.Test.YtophcoaikelopaaDoorWR
import Derived.Test.YtophcoaikelopaaDoorPX
import Derived.Test.YtophcoaikelopaaDoorWD
namespace Go.Proofs.YtophcoaikelopaaDoor
open Go.RowKit

/-- The table of the first example. -/
def oneT : Tbl := ⟨⟨#[116]⟩, 1, [⟨⟨#[97]⟩, 1, true, 1, ⟨1, true, 0, ⟨#[]⟩, false⟩⟩], [], 0, 0⟩
theorem enc_one : enc oneT = [1, 1, 116, 1, 0, 1, 1, 97, 1, 1, 1, 0, 0, 0] := by decide +kernel
theorem usable_t : usable ⟨#[116]⟩ = true := by decide +kernel
theorem usable_a : usable ⟨#[97]⟩ = true := by decide +kernel
theorem find_one : findC oneT.cols ⟨#[97]⟩ = 0 := by decide +kernel
theorem fits_one : fits ⟨⟨#[97]⟩, 1, true, 1, ⟨1, true, 0, ⟨#[]⟩, false⟩⟩ ⟨1, true, 0, ⟨#[]⟩, false⟩ = 0 := by decide +kernel
theorem valid_one : valid oneT = 0 := by
  refine valid_0 ?_ ?_ ?_ ?_ ?_ ?_ ?_
  · rintro (h | ⟨k, hk, h⟩)
    · rw [show oneT.name = ⟨#[116]⟩ from rfl, usable_t] at h; cases h
    · have : k = 0 := by simp [oneT] at hk; exact hk
      subst this
      rw [show oneT.cols[0].name = ⟨#[97]⟩ from rfl, usable_a] at h; cases h
  · rintro (h | h | h) <;> simp [oneT] at h
  · rintro ⟨k, hk, h⟩
    have : k = 0 := by simp [oneT] at hk; exact hk
    subst this
    exact h find_one
  · rintro ⟨k, hk, h⟩
    simp [oneT] at hk
  · rintro ⟨k, hk, h⟩
    simp [oneT] at hk
  · rintro ⟨k, hk, h⟩
    have : k = 0 := by simp [oneT] at hk; exact hk
    subst this
    exact h fits_one
  · rintro (h | h | ⟨k, hk, h⟩)
    · simp [oneT] at h
    · simp [oneT] at h
    · have : k = 0 := by simp [oneT] at hk; exact hk
      subst this
      simp [oneT, sinceAt] at h
theorem parse_one : parse (enc oneT) = some oneT := parse_enc valid_one
section
variable {w : World} {v v' : Value} {t : Tbl}
theorem TblIs.below {w' : World} (h : TblIs w v t) (hb : Below w.heap.size w w') : TblIs w' v t := by
  obtain ⟨A, n, c, A2, n2, c2, hv, h1, h2, h3, h4⟩ := h
  exact ⟨A, n, c, A2, n2, c2, hv, (h1.below hb).more hb.size, (h2.below hb).more hb.size, h3, h4⟩
theorem table_is (h : TblIs w v t) (hc : t.cols.length ≤ 1000) (hx : t.idxs.length ≤ 1000) : Calls Tryd.prog 18 #[v] w (RetTbl w t) := by
  obtain ⟨A, n, c, A2, n2, c2, rfl, h1, h2, h3, h4⟩ := h
  have e1 := h1.1; rw [colCells_len] at e1
  have e2 := h2.1; rw [idxCells_len] at e2
  exact table_any t A A2 n c n2 c2 w h1 h2 (by omega) (by omega)
theorem back_is (h : TblIs w v t) (hc : t.cols.length ≤ 1000) (hx : t.idxs.length ≤ 1000) : Calls Tryd.prog 30 #[v] w (RetTbl w t) := by
  obtain ⟨A, n, c, A2, n2, c2, rfl, h1, h2, h3, h4⟩ := h
  have e1 := h1.1; rw [colCells_len] at e1
  have e2 := h2.1; rw [idxCells_len] at e2
  exact back_any t A A2 n c n2 c2 w h1 h2 (by omega) (by omega)
theorem valid_is (h : TblIs w v t) (hT : Tabs w) (hs : Sized t) (hc : t.cols.length ≤ 1000) (hx : t.idxs.length ≤ 1000) : Calls Tryd.prog 19 #[v] w fun e w' => e = .returned (.int .i64 (valid t)) ∧ Below w.heap.size w w' := by
  obtain ⟨A, n, c, A2, n2, c2, rfl, h1, h2, h3, h4⟩ := h
  have e1 := h1.1; rw [colCells_len] at e1
  have e2 := h2.1; rw [idxCells_len] at e2
  exact valid_walk t A A2 n c n2 c2 w hT hs h1 h2 (by omega) (by omega)
theorem bytes_is (h : TblIs w v t) (hT : Tabs w) (hs : Sized t) (hv : valid t = 0) : Calls Tryd.prog 26 #[v] w (RetE w (enc t)) := by
  obtain ⟨A, n, c, A2, n2, c2, rfl, h1, h2, h3, h4⟩ := h
  exact bytes_good t A A2 n c n2 c2 w hT hs h1 h2 hv
theorem bytes_no (h : TblIs w v t) (hT : Tabs w) (hs : Sized t) (hc : t.cols.length ≤ 1000) (hx : t.idxs.length ≤ 1000) (hv : valid t ≠ 0) : Calls Tryd.prog 26 #[v] w fun e w' => e = .returned (.tuple #[.slice none 0 0, .int .i64 (valid t)]) ∧ Below w.heap.size w w' := by
  obtain ⟨A, n, c, A2, n2, c2, rfl, h1, h2, h3, h4⟩ := h
  have e1 := h1.1; rw [colCells_len] at e1
  have e2 := h2.1; rw [idxCells_len] at e2
  exact bytes_bad t A A2 n c n2 c2 w hT hs h1 h2 (by omega) (by omega) hv
theorem same_is (h : TblIs w v t) (h' : TblIs w v' t) (hc : t.cols.length ≤ 1000) (hx : t.idxs.length ≤ 1000) : Calls Tryd.prog 29 #[v, v'] w fun e w' => e = .returned (.bool true) ∧ Below w.heap.size w w' := by
  obtain ⟨A, n, c, A2, n2, c2, rfl, h1, h2, h3, h4⟩ := h
  obtain ⟨B, m, d, B2, m2, d2, rfl, k1, k2, k3, k4⟩ := h'
  have e1 := h1.1; rw [colCells_len] at e1
  have e2 := h2.1; rw [idxCells_len] at e2
  have e3 := k1.1; rw [colCells_len] at e3
  have e4 := k2.1; rw [idxCells_len] at e4
  obtain rfl : n = m := by omega
  obtain rfl : n2 = m2 := by omega
  exact same_core t A A2 B B2 n n2 c c2 d d2 w h1 h2 k1 k2 (by omega) (by omega)
end
theorem sized_one : Sized oneT := ⟨by show (1 : Nat) ≤ _; omega, fun k h => by
  have : k = 0 := by simp [oneT] at h; exact h
  subst this
  exact ⟨by show (1 : Nat) ≤ _; omega, by show (0 : Nat) ≤ _; omega⟩⟩
set_option maxHeartbeats 1000000 in
theorem one_any (w : World) : Calls Tryd.prog 15 #[] w (RetTbl w oneT) := by
  go_enter Tryd.func15, Tryd.ntmps15
  go_wp2
  refine bodyPost_ret (v := .agg #[.string ⟨#[116]⟩, .int .i64 1, .slice (some ⟨w.heap.size + 1, 0, none⟩) 1 1, .slice none 0 0, .int .u64 0, .int .u64 0]) (by simp [results, Tryd.results15, go_sem]) rfl ?_
  refine ⟨_, rfl, ⟨some ⟨w.heap.size + 1, 0, none⟩, 1, 1, none, 0, 0, rfl, ?_, Reads.none_, Nat.le_refl _, Nat.le_refl _⟩, bel2 _ _ _⟩
  exact (rowN_reads1 w _ (colCells oneT.cols) 1 9 25 _ rfl rfl).more (by simp)
theorem reserved_select : reserved ⟨#[115, 101, 108, 101, 99, 116]⟩ = true := by decide +kernel
set_option maxRecDepth 100000 in
set_option maxHeartbeats 4000000 in
theorem awake_any (w : World) (hT : Tabs w) : Calls Tryd.prog 9 #[] w fun e w' => e = .returned (.bool true) ∧ Below w.heap.size w w' := by
  have HT := Lib.hid hT
  clear hT
  go_enter Tryd.func9, Tryd.ntmps9
  go_wp2_with fail
  refine (one_any w).mono ?_
  rintro e w1 ⟨v1, rfl, h1, hb1⟩
  have H1 := Lib.hid h1
  have HB1 := Lib.hid hb1
  clear h1 hb1
  go_wp2_with fail
  refine (table_is H1.out (by decide) (by decide)).mono ?_
  rintro e w2 ⟨v2, rfl, h2, hb2⟩
  have H2 := Lib.hid h2
  have HB2 := Lib.hid (HB1.out.trans (hb2.mono HB1.out.size))
  clear h2 hb2 HB1 H1
  go_wp2_with fail
  refine (bytes_is H2.out (HT.out.below HB2.out) sized_one valid_one).mono ?_
  rintro e w3 ⟨A, n, c, rfl, ho3, hb3⟩
  have hn := own_len ho3
  rw [enc_one] at hn
  obtain rfl : 14 = n := hn
  have hcap := own_cap ho3
  have HB3 := Lib.hid (HB2.out.trans (hb3.mono HB2.out.size))
  have HR3 := Lib.hid (Reads.of_own ho3)
  obtain ⟨b1, off, hA, hb1, hcell⟩ := HR3.out.plain (by omega) (by omega)
  subst hA
  rw [enc_one] at hcell
  have c0 : w3.cell? ⟨b1, off, none⟩ = some (.int .u8 1) := hcell 0 _ rfl
  have c1 : w3.cell? ⟨b1, off + 1, none⟩ = some (.int .u8 1) := hcell 1 _ rfl
  have c2 : w3.cell? ⟨b1, off + 2, none⟩ = some (.int .u8 116) := hcell 2 _ rfl
  have c5 : w3.cell? ⟨b1, off + 5, none⟩ = some (.int .u8 1) := hcell 5 _ rfl
  have c7 : w3.cell? ⟨b1, off + 7, none⟩ = some (.int .u8 97) := hcell 7 _ rfl
  clear ho3 hb3 hcell HB2 H2
  go_wp2_with fail
  clear c0 c1 c2 c5 c7
  have HP := Lib.hid (parse_any _ 14 c (enc oneT) w3 (HT.out.below HB3.out) HR3.out hcap.1 hcap.2)
  rw [parse_one] at HP
  refine HP.out.mono ?_
  rintro e w4 ⟨v4, rfl, h4, hb4⟩
  have HB4 := Lib.hid (HB3.out.trans (hb4.mono HB3.out.size))
  have H4 := Lib.hid h4
  obtain ⟨A4, n4, c4, A5, n5, c5, rfl, _, _, _, _⟩ := h4
  clear hb4 HB3 HP HR3
  go_wp2_with fail
  refine (back_is (H4.out.below ((Below.refl _ _).alloc (Nat.le_refl _) _)) (by decide) (by decide)).mono ?_
  rintro e w5 ⟨v5, rfl, h5, hb5⟩
  have H5 := Lib.hid h5
  have HB5 := Lib.hid ((HB4.out.alloc HB4.out.size _).trans (hb5.mono (Nat.le_trans HB4.out.size (by simp))))
  clear h5 hb5 HB4 H4
  go_wp2_with fail
  refine (one_any _).mono ?_
  rintro e w6 ⟨v6, rfl, h6, hb6⟩
  have H6 := Lib.hid h6
  have H56 := Lib.hid (H5.out.below hb6)
  have HB6 := Lib.hid (HB5.out.trans (hb6.mono HB5.out.size))
  clear h6 hb6 HB5 H5
  go_wp2_with fail
  refine (same_is H56.out H6.out (by decide) (by decide)).mono ?_
  rintro e w7 ⟨rfl, hb7⟩
  have HB7 := Lib.hid (HB6.out.trans (hb7.mono HB6.out.size))
  clear hb7 HB6 H56 H6
  go_wp2_with fail
  have HRS := Lib.hid (reserved_any ⟨#[115, 101, 108, 101, 99, 116]⟩ w7)
  rw [reserved_select] at HRS
  refine HRS.out.mono ?_
  rintro e w8 ⟨rfl, rfl⟩
  go_wp2_with fail
  refine (one_any _).mono ?_
  rintro e w9 ⟨v9, rfl, h9, hb9⟩
  have H9 := Lib.hid h9
  have HB9 := Lib.hid (HB7.out.trans (hb9.mono HB7.out.size))
  clear h9 hb9 HB7 HRS
  go_wp2_with fail
  refine (table_is H9.out (by decide) (by decide)).mono ?_
  rintro e wa ⟨va, rfl, ha, hba⟩
  have HA := Lib.hid ha
  have HBa := Lib.hid (HB9.out.trans (hba.mono HB9.out.size))
  clear ha hba HB9 H9
  go_wp2_with fail
  have HVW := Lib.hid (valid_is HA.out (HT.out.below HBa.out) sized_one (by decide) (by decide))
  rw [valid_one] at HVW
  refine HVW.out.mono ?_
  rintro e wb ⟨rfl, hbb⟩
  go_wp2
  go_ret
  exact ⟨rfl, HBa.out.trans (hbb.mono HBa.out.size)⟩
end Go.Proofs.YtophcoaikelopaaDoor
