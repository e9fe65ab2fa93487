/- Walks: the law SchemaReserved. -/
import Derived.Test.YtophcoaikelopaaDoorWS
namespace Go.Proofs.YtophcoaikelopaaDoor
open Go.RowKit

set_option maxHeartbeats 1000000 in
theorem one_exact (w : World) : Calls Tryd.prog 15 #[] w fun e w' =>
    e = .returned (.agg #[.string ⟨#[116]⟩, .int .i64 1, .slice (some ⟨w.heap.size + 1, 0, none⟩) 1 1, .slice none 0 0, .int .u64 0, .int .u64 0]) ∧
    (w.alloc (.cells #[.string ⟨#[116]⟩, .int .i64 1, .slice (some ⟨w.heap.size + 1, 0, none⟩) 1 1, .slice none 0 0, .int .u64 0, .int .u64 0] 44)).alloc
      (.cells #[.string ⟨#[97]⟩, .int .u8 1, .bool true, .int .i64 1, .int .u8 1, .bool true, .int .i64 0, .string ⟨#[]⟩, .bool false] 25) = w' := by
  go_enter Tryd.func15, Tryd.ntmps15
  go_wp2
  exact bodyPost_ret (v := .agg #[.string ⟨#[116]⟩, .int .i64 1, .slice (some ⟨w.heap.size + 1, 0, none⟩) 1 1, .slice none 0 0, .int .u64 0, .int .u64 0]) (by simp [results, Tryd.results15, go_sem]) rfl ⟨rfl, rfl⟩
/-- The first example under another name, and with another column. -/
def oneN (s : ByteArray) : Tbl := { oneT with name := s }
def oneC (s : ByteArray) : Tbl := { oneT with cols := [⟨s, 1, true, 1, ⟨1, true, 0, ⟨#[]⟩, false⟩⟩] }
theorem reserved_word (k : Nat) (hk : k < 31) : reserved (words[k]'(by simp [words, words_len, hk])) = true := by
  unfold reserved
  refine List.any_eq_true.2 ⟨wordsL[k]'(by rw [words_len]; exact hk), List.getElem_mem _, ?_⟩
  rw [words_at k hk]; simp
theorem usable_no {s : ByteArray} (h : reserved s = true) : usable s = false := by unfold usable; rw [h]; simp
theorem valid_oneN {s : ByteArray} (h : reserved s = true) : valid (oneN s) = 15 := valid_15 (.inl (usable_no h))
theorem valid_oneC {s : ByteArray} (h : reserved s = true) : valid (oneC s) = 15 := valid_15 (.inr ⟨0, by simp [oneC], usable_no h⟩)
theorem word_size (k : Nat) (hk : k < 31) : (words[k]'(by simp [words, words_len, hk])).size ≤ 16 := by
  have : ∀ x ∈ words, x.size ≤ 16 := by decide +kernel
  exact this _ (List.getElem_mem _)
theorem sized_oneN {s : ByteArray} (h : s.size ≤ 16) : Sized (oneN s) := ⟨by show s.size ≤ _; omega, fun k hk => by
  have : k = 0 := by simp [oneN, oneT] at hk; exact hk
  subst this
  exact ⟨by show (1 : Nat) ≤ _; omega, by show (0 : Nat) ≤ _; omega⟩⟩
theorem sized_oneC {s : ByteArray} (h : s.size ≤ 16) : Sized (oneC s) := ⟨by show (1 : Nat) ≤ _; omega, fun k hk => by
  have : k = 0 := by simp [oneC] at hk; exact hk
  subst this
  exact ⟨by show s.size ≤ _; omega, by show (0 : Nat) ≤ _; omega⟩⟩
/-- The memory behind the two tables' making. -/
def resW (w : World) (wk : ByteArray) (a : Nat) : World :=
  (((w.alloc (.cells #[.string wk, .int .i64 1, .slice (some ⟨a, 0, none⟩) 1 1, .slice none 0 0, .int .u64 0, .int .u64 0] 44)).alloc
    (.cells #[.string ⟨#[116]⟩, .int .i64 1, .slice (some ⟨w.heap.size + 1 + 1, 0, none⟩) 1 1, .slice none 0 0, .int .u64 0, .int .u64 0] 44)).alloc
    (.cells #[.string wk, .int .u8 1, .bool true, .int .i64 1, .int .u8 1, .bool true, .int .i64 0, .string ⟨#[]⟩, .bool false] 25)).alloc
    (.cells #[.string ⟨#[116]⟩, .int .i64 1, .slice (some ⟨w.heap.size + 1 + 1, 0, none⟩) 1 1, .slice none 0 0, .int .u64 0, .int .u64 0] 44)
structure ResI (w W : World) (wk : ByteArray) (a : Nat) : Prop where
  below : Below w.heap.size w W
  t : Blk W w.heap.size 44 #[.string wk, .int .i64 1, .slice (some ⟨a, 0, none⟩) 1 1, .slice none 0 0, .int .u64 0, .int .u64 0]
  u : Blk W (w.heap.size + 1 + 1 + 1) 44 #[.string ⟨#[116]⟩, .int .i64 1, .slice (some ⟨w.heap.size + 1 + 1, 0, none⟩) 1 1, .slice none 0 0, .int .u64 0, .int .u64 0]
  c : Reads W W.heap.size 9 (some ⟨w.heap.size + 1 + 1, 0, none⟩) 1 (colCells (oneC wk).cols)
theorem resI_new (w : World) (wk : ByteArray) (a : Nat) : ResI w (resW w wk a) wk a := by
  unfold resW
  refine ⟨(bel2 _ _ _).trans ((bel2 _ _ _).mono (by simp; omega)), (((Blk.new w 44 _).alloc _).alloc _).alloc _, ?_, ?_⟩
  · have h := Blk.new2 (w.alloc (.cells #[.string wk, .int .i64 1, .slice (some ⟨a, 0, none⟩) 1 1, .slice none 0 0, .int .u64 0, .int .u64 0] 44)) (.cells #[.string ⟨#[116]⟩, .int .i64 1, .slice (some ⟨w.heap.size + 1 + 1, 0, none⟩) 1 1, .slice none 0 0, .int .u64 0, .int .u64 0] 44) (.cells #[.string wk, .int .u8 1, .bool true, .int .i64 1, .int .u8 1, .bool true, .int .i64 0, .string ⟨#[]⟩, .bool false] 25) 44 #[.string ⟨#[116]⟩, .int .i64 1, .slice (some ⟨w.heap.size + 1 + 1, 0, none⟩) 1 1, .slice none 0 0, .int .u64 0, .int .u64 0]
    rw [World.size_alloc] at h
    exact h
  · have h := rowN_reads2 w (.cells #[.string wk, .int .i64 1, .slice (some ⟨a, 0, none⟩) 1 1, .slice none 0 0, .int .u64 0, .int .u64 0] 44) (.cells #[.string ⟨#[116]⟩, .int .i64 1, .slice (some ⟨w.heap.size + 1 + 1, 0, none⟩) 1 1, .slice none 0 0, .int .u64 0, .int .u64 0] 44) (colCells (oneC wk).cols) 1 9 25 _ rfl rfl
    exact (h.alloc (by simp) _).more (by simp)
theorem ResI.step {w W W' : World} {wk : ByteArray} {a : Nat} (h : ResI w W wk a) (hb : Below W.heap.size W W') : ResI w W' wk a :=
  ⟨h.below.trans (hb.mono h.below.size), h.t.below hb h.t.lt, h.u.below hb h.u.lt, (h.c.below hb).more hb.size⟩
set_option maxRecDepth 100000 in
set_option maxHeartbeats 4000000 in
theorem schemaReserved_walk (s : ByteArray) (n : Nat) (hn : n < 256) (w : World) (hT : Tabs w) :
    Calls Tryd.prog 4 #[.string s, .int .u8 (n : Int)] w fun e w' => e = .returned (.bool true) ∧ Below w.heap.size w w' := by
  have hk : n % 31 < 31 := by omega
  have HRW := Lib.hid (reserved_word (n % 31) hk)
  have HWS := Lib.hid (word_size (n % 31) hk)
  have HT := Lib.hid hT
  clear hT
  go_enter Tryd.func4, Tryd.ntmps4
  go_wp2_with fail
  refine (awake_any w HT.out).mono ?_
  rintro e w1 ⟨rfl, hb1⟩
  have HB1 := Lib.hid hb1
  clear hb1
  go_wp2_with fail
  refine (words_any w1).mono ?_
  rintro e w2 ⟨rfl, hw2⟩
  have HC := Lib.hid (words_cell w1 (n % 31) hk)
  rw [hw2] at HC
  have HB2 : Hid (Below w.heap.size w w2) := by rw [← hw2]; exact HB1.out.alloc HB1.out.size _
  have hlt2 : w1.heap.size < w2.heap.size := by rw [← hw2]; simp
  clear hw2 HB1
  generalize words[n % 31]'(by simp [words, words_len, hk]) = wk at *
  go_wp2_with fail
  refine (words_any w2).mono ?_
  rintro e w3 ⟨rfl, hw3⟩
  have hc3 : w3.cell? ⟨w1.heap.size, n % 31, none⟩ = some (.string wk) := by rw [← hw3]; exact (World.cell?_alloc_lt w2 _ _ hlt2).trans HC.out
  have HB3 : Hid (Below w.heap.size w w3) := by rw [← hw3]; exact HB2.out.alloc HB2.out.size _
  clear hw3 HC HB2 hlt2
  go_wp2_with fail
  refine (one_exact w3).mono ?_
  rintro e w4 ⟨rfl, hw4⟩
  have HRD4 : Hid (Reads w4 w4.heap.size 9 (some ⟨w3.heap.size + 1, 0, none⟩) 1 (colCells oneT.cols)) := by
    rw [← hw4]; exact (rowN_reads1 w3 _ (colCells oneT.cols) 1 9 25 _ rfl rfl).more (by simp)
  have HB4 : Hid (Below w.heap.size w w4) := by
    rw [← hw4]; exact HB3.out.trans ((bel2 w3 _ _).mono HB3.out.size)
  clear hw4 hc3 HB3
  go_wp2_with fail
  refine (one_exact _).mono ?_
  rintro e w5 ⟨rfl, rfl⟩
  go_wp2_with fail
  change Calls Tryd.prog 16 #[.string s] (resW w4 wk (w3.heap.size + 1)) _
  have H7 := Lib.hid (resI_new w4 wk (w3.heap.size + 1))
  generalize resW w4 wk (w3.heap.size + 1) = W7 at *
  have HRS := Lib.hid (reserved_any s W7)
  have HRR := Lib.hid (refReserved_any s W7)
  generalize reserved s = rs at *
  refine HRS.out.mono ?_
  rintro e w8 ⟨rfl, rfl⟩
  go_wp2_with fail
  refine HRR.out.mono ?_
  rintro e w8 ⟨rfl, hb8⟩
  have H8 := Lib.hid (H7.out.step hb8)
  have hbq : (rs == rs) = true := by simp
  clear hb8 HRS HRR H7
  have HRK := Lib.hid (reserved_any wk w8)
  rw [HRW.out] at HRK
  have t0 : w8.cell? ⟨w4.heap.size, 0, none⟩ = some (.string wk) := H8.out.t.cell 0
  have t1 : w8.cell? ⟨w4.heap.size, 1, none⟩ = some (.int .i64 1) := H8.out.t.cell 1
  have t2 : w8.cell? ⟨w4.heap.size, 2, none⟩ = some (.slice (some ⟨w3.heap.size + 1, 0, none⟩) 1 1) := H8.out.t.cell 2
  have t3 : w8.cell? ⟨w4.heap.size, 3, none⟩ = some (.slice none 0 0) := H8.out.t.cell 3
  have t4 : w8.cell? ⟨w4.heap.size, 4, none⟩ = some (.int .u64 0) := H8.out.t.cell 4
  have t5 : w8.cell? ⟨w4.heap.size, 5, none⟩ = some (.int .u64 0) := H8.out.t.cell 5
  go_wp2_with fail
  refine HRK.out.mono ?_
  rintro e w9 ⟨rfl, rfl⟩
  have HTI : Hid (TblIs w8 (.agg #[.string wk, .int .i64 1, .slice (some ⟨w3.heap.size + 1, 0, none⟩) 1 1, .slice none 0 0, .int .u64 0, .int .u64 0]) (oneN wk)) :=
    ⟨_, 1, 1, none, 0, 0, rfl, (HRD4.out.below H8.out.below).more H8.out.below.size, Reads.none_, Nat.le_refl _, Nat.le_refl _⟩
  go_wp2_with fail
  refine (table_is HTI.out (by simp [oneN, oneT]) (by simp [oneN, oneT])).mono ?_
  rintro e wa ⟨va, rfl, ha, hba⟩
  have HA := Lib.hid ha
  have H9 := Lib.hid (H8.out.step hba)
  clear ha hba H8 HTI t0 t1 t2 t3 t4 t5 HRK hbq
  go_wp2_with fail
  have HVA := Lib.hid (valid_is HA.out (HT.out.below (HB4.out.trans (H9.out.below.mono HB4.out.size))) (sized_oneN HWS.out) (by simp [oneN, oneT]) (by simp [oneN, oneT]))
  rw [valid_oneN HRW.out] at HVA
  refine HVA.out.mono ?_
  rintro e wb ⟨rfl, hbb⟩
  have Hb := Lib.hid (H9.out.step hbb)
  clear hbb H9 HA HVA
  have u0 : wb.cell? ⟨w4.heap.size + 1 + 1 + 1, 0, none⟩ = some (.string ⟨#[116]⟩) := Hb.out.u.cell 0
  have u1 : wb.cell? ⟨w4.heap.size + 1 + 1 + 1, 1, none⟩ = some (.int .i64 1) := Hb.out.u.cell 1
  have u2 : wb.cell? ⟨w4.heap.size + 1 + 1 + 1, 2, none⟩ = some (.slice (some ⟨w4.heap.size + 1 + 1, 0, none⟩) 1 1) := Hb.out.u.cell 2
  have u3 : wb.cell? ⟨w4.heap.size + 1 + 1 + 1, 3, none⟩ = some (.slice none 0 0) := Hb.out.u.cell 3
  have u4 : wb.cell? ⟨w4.heap.size + 1 + 1 + 1, 4, none⟩ = some (.int .u64 0) := Hb.out.u.cell 4
  have u5 : wb.cell? ⟨w4.heap.size + 1 + 1 + 1, 5, none⟩ = some (.int .u64 0) := Hb.out.u.cell 5
  have HUI : Hid (TblIs wb (.agg #[.string ⟨#[116]⟩, .int .i64 1, .slice (some ⟨w4.heap.size + 1 + 1, 0, none⟩) 1 1, .slice none 0 0, .int .u64 0, .int .u64 0]) (oneC wk)) :=
    ⟨_, 1, 1, none, 0, 0, rfl, Hb.out.c, Reads.none_, Nat.le_refl _, Nat.le_refl _⟩
  go_wp2_with fail
  refine (table_is HUI.out (by simp [oneC]) (by simp [oneC, oneT])).mono ?_
  rintro e wc ⟨vc, rfl, hc, hbc⟩
  have HCC := Lib.hid hc
  have Hc := Lib.hid (Hb.out.step hbc)
  clear hc hbc Hb HUI u0 u1 u2 u3 u4 u5
  go_wp2_with fail
  have HVC := Lib.hid (valid_is HCC.out (HT.out.below (HB4.out.trans (Hc.out.below.mono HB4.out.size))) (sized_oneC HWS.out) (by simp [oneC]) (by simp [oneC, oneT]))
  rw [valid_oneC HRW.out] at HVC
  refine HVC.out.mono ?_
  rintro e wd ⟨rfl, hbd⟩
  have Hd := Lib.hid (Hc.out.step hbd)
  clear hbd Hc HCC HVC
  go_wp2
  go_ret
  exact ⟨rfl, HB4.out.trans (Hd.out.below.mono HB4.out.size)⟩
theorem schemaReserved_law (w : World) (hT : Tabs w) {v1 : Value} (s : ByteArray) (h1 : v1 = .string s) {v2 : Value} (n : Nat) (h2 : v2 = .int .u8 (n : Int) ∧ n < 256) :
    Calls Tryd.prog 4 #[v1, v2] w fun e w' => e = .returned (.bool true) ∧ Below w.heap.size w w' := by
  subst h1
  obtain ⟨rfl, hn⟩ := h2
  exact schemaReserved_walk s n hn w hT
end Go.Proofs.YtophcoaikelopaaDoor
