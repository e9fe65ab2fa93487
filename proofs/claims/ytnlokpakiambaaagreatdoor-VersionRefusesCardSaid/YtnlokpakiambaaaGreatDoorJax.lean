/- The walks and laws that the claim leans on, part 24. -/
import Derived.Test.YtnlokpakiambaaaGreatDoorJav
set_option maxRecDepth 100000
set_option maxHeartbeats 16000000
namespace Go.Proofs.YtnlokpakiambaaaGreatDoor
open Go.Lib (hid)
section
open Go.RowKit
theorem hd_or (c g : Nat) (hc : c < 5) (hg : g < 65536) : bits .or .u32 ((3305111552 + g : Nat) : Int) (((c + 1) * 65536 + 1048576 : Nat) : Int) = (hdX c g : Int) := by
 rw [u32_or_nat _ _ (by omega) (by omega)]
 congr 1
 have e1 : 3305111552 + g = 3305111552 ||| g := Nat.two_pow_add_eq_or_of_lt (i := 16) (b := g) (by omega) 50432
 have e2 : 3305111552 ||| ((c + 1) * 65536 + 1048576) = 2 ^ 16 * (50432 + (c + 1) + 16) := by
  have hc5 : c = 0 ∨ c = 1 ∨ c = 2 ∨ c = 3 ∨ c = 4 := by omega
  rcases hc5 with rfl | rfl | rfl | rfl | rfl <;> decide
 rw [e1, Nat.or_assoc, Nat.or_comm g, ← Nat.or_assoc, e2, ← Nat.two_pow_add_eq_or_of_lt (by omega)]
 unfold hdX
 omega
theorem hd_or2 (c : Nat) (hc : c < 5) : bits .or .u32 (((c : Int) + 1) * 65536) 1048576 = (((c + 1) * 65536 + 1048576 : Nat) : Int) := by
 have hc5 : c = 0 ∨ c = 1 ∨ c = 2 ∨ c = 3 ∨ c = 4 := by omega
 rcases hc5 with rfl | rfl | rfl | rfl | rfl <;> decide
section
theorem wordCls_any (c g : Nat) (hc : c < 5) (hg : g < 65536) (w : World) (ht : Tab w) :
  Calls Tryz.prog 228 #[.agg #[.int .i64 (c : Int), .int .i64 0, .int .u16 (g : Int)]] w fun e w' => e = .returned (.int .u64 (hdrW c g : Int)) ∧ Below w.heap.size w w' := by
 have HB0 : Hid (∀ x, Below w.heap.size w (w.alloc x)) := fun x => (Below.refl _ _).alloc (Nat.le_refl _) x
 have HS := hid (fun x => seal_any (hdX c g) (by unfold hdX; omega) (w.alloc x) (ht.below (HB0.out x)))
 have e1 := own_or g hg
 have e2 := hd_or c g hc hg
 have e3 := hd_or2 c hc
 have u1 : IntKind.u32.wrap (g : Int) = (g : Int) := by rw [IntKind.wrap_u32']; omega
 have u2 : IntKind.u32.wrap ((c : Int) + 1) = (c : Int) + 1 := by rw [IntKind.wrap_u32']; omega
 have u3 : IntKind.u32.wrap (((c : Int) + 1) * 65536) = ((c : Int) + 1) * 65536 := by rw [IntKind.wrap_u32']; omega
 have d1 : decide ((0 : Int) ≤ (c : Int)) = true := decide_eq_true (by omega)
 unfold hdrW
 generalize hdX c g = z at *
 generalize ((c + 1) * 65536 + 1048576) = y at *
 generalize 3305111552 + g = q at *
 clear ht
 go_enter Tryz.func228, Tryz.ntmps228
 go_wp2_with (go_at_call 237; refine (HS.out _).mono ?_; rintro e w1 ⟨rfl, hb1⟩; have HB1 := hid ((HB0.out _).trans (hb1.mono (by simp))); clear hb1)
 go_ret
 exact ⟨rfl, HB1.out⟩
def IsFmt (ln cl g : Nat) (p : List Ins) : Prop := ∃ p1 p2, p = p1 ++ p2 ∧ IsStores (fmtW ln cl g) p1 ∧ IsStores [(64 * ln, hdrW cl g)] p2
theorem stores_len {ws : List (Nat × Nat)} {p : List Ins} (h : IsStores ws p) : p.length ≤ 2 * ws.length + 1 := by
 obtain ⟨fs, rfl, hl, _⟩ := h
 simp
 omega
theorem chPlan_any (ln cl g : Nat) (hl : ln ≤ 4064) (hc : cl < 5) (h0 : 0 < g) (hg : g < 65536) (w : World) (ht : Tab w) (hp : Pay w) :
  Calls Tryz.prog 304 #[.int .i64 (ln : Int), .agg #[.int .i64 (cl : Int), .int .i64 0, .int .u16 (g : Int)]] w (RetProgOk w (IsFmt ln cl g)) := by
 have HT := hid ht
 have HPy := hid hp
 obtain ⟨i0, hi0, hz0, hz1, hz2⟩ := info_parts infoWrite
 have HB0 : Hid (Below w.heap.size w (w.alloc (.cells #[.int .i64 (cl : Int), .int .i64 0, .int .u16 (g : Int)] 219))) := (Below.refl _ _).alloc (Nat.le_refl _) _
 have HK0 := hid (Blk.new w 219 #[.int .i64 (cl : Int), .int .i64 0, .int .u16 (g : Int)])
 generalize hW : w.alloc (.cells #[.int .i64 (cl : Int), .int .i64 0, .int .u16 (g : Int)] 219) = W at *
 have HWe := hid hW.symm
 clear hW
 have HTW := hid (ht.below HB0.out)
 have HPW := hid (hp.below HB0.out)
 have HF := hid (formatted_any cl g hc W HPW.out)
 have HBw : Hid (∀ V, Below W.heap.size W V → Calls Tryz.prog 219 #[.agg #[.int .u16 (g : Int), .int .u8 0, .int .u8 176]] V fun e w' => e = .returned (.int .u64 (BK.w ⟨g, 0, 176⟩ : Int)) ∧ Below V.heap.size V w') := hid (fun V hV => bkWord_any ⟨g, 0, 176⟩ ⟨hg, by show (0 : Nat) < 256; omega, by show (176 : Nat) < 256; omega⟩ V (HTW.out.below hV))
 have HPC : Hid (∀ V, Below W.heap.size W V → Calls Tryz.prog 184 #[.int .i64 (cl : Int)] V fun e w' => e = .returned (.int .i64 (perC cl : Int)) ∧ V = w') := hid (fun V hV => perChunk_any cl hc V (HPW.out.below hV))
 have HOf : Hid (∀ k, k < perC cl → ∀ V, Below W.heap.size W V → Calls Tryz.prog 239 #[.int .i64 (cl : Int), .int .i64 (k : Int)] V fun e w' => e = .returned (.tuple #[.int .i64 (offB cl k : Int), .int .i64 0]) ∧ V = w') := hid (fun k hk V hV => offset_any cl k hc hk V (HPW.out.below hV))
 have HSt := hid (start_any ln (by omega))
 have HWd : Hid (∀ V, Below W.heap.size W V → Calls Tryz.prog 228 #[.agg #[.int .i64 (cl : Int), .int .i64 0, .int .u16 (g : Int)]] V fun e w' => e = .returned (.int .u64 (hdrW cl g : Int)) ∧ Below V.heap.size V w') := hid (fun V hV => wordCls_any cl g hc hg V (HTW.out.below hV))
 have HOl : Hid (∀ k, k < perC cl → offB cl k < 256) := hid (fun k hk => by have := off_lt hk; have := pay_le cl; omega)
 have hper := per_le cl
 have HBs := hid (fun k => fmtB_succ ln cl g k)
 have HZs := hid (fun k => fmtZ_succ ln k)
 have d1 : decide ((0 : Int) ≤ (ln : Int)) = true := decide_eq_true (by omega)
 have d2 : decide ((ln : Int) ≤ 4064) = true := decide_eq_true (by omega)
 have d3 : ((g : Int) == 0) = false := by rw [beq_eq_false_iff_ne]; omega
 clear ht hp hc h0 hg
 generalize hz : 64 * ln = z at *
 have hz4 : z ≤ 260096 := by omega
 have HZ := hid hz
 clear hz hl
 go_enter Tryz.func304, Tryz.ntmps304
 go_wp2_with fail
 rw [← HWe.out]
 have c0 : W.cell? ⟨w.heap.size, 0, none⟩ = some (.int .i64 (cl : Int)) := HK0.out.cell 0
 have c1 : W.cell? ⟨w.heap.size, 1, none⟩ = some (.int .i64 0) := HK0.out.cell 1
 have c2 : W.cell? ⟨w.heap.size, 2, none⟩ = some (.int .u16 (g : Int)) := HK0.out.cell 2
 go_wp2_with (first
  | (go_at_call 238; refine HF.out.mono ?_; rintro e w1 ⟨rfl, hb1⟩; have HB1 := hid hb1; have k1 := HK0.out.below hb1 HK0.out.lt; have c0' : w1.cell? ⟨w.heap.size, 0, none⟩ = some (.int .i64 (cl : Int)) := k1.cell 0; have c1' : w1.cell? ⟨w.heap.size, 1, none⟩ = some (.int .i64 0) := k1.cell 1; have c2' : w1.cell? ⟨w.heap.size, 2, none⟩ = some (.int .u16 (g : Int)) := k1.cell 2; clear hb1 k1 c0 c1 c2)
  | (go_at_call 219; refine (HBw.out _ HB1.out).mono ?_; rintro e w2 ⟨rfl, hb2⟩; have HB2 := hid (HB1.out.trans (hb2.mono HB1.out.size)); have k1 := HK0.out.below HB2.out HK0.out.lt; have c0 : w2.cell? ⟨w.heap.size, 0, none⟩ = some (.int .i64 (cl : Int)) := k1.cell 0; clear hb2 k1 c0' c1' c2')
  | (go_at_call 184; refine (HPC.out _ HB2.out).mono ?_; rintro e w3 ⟨rfl, rfl⟩)
  | go_in)
 clear c0
 have HL2 : Hid (W.heap.size ≤ w2.heap.size) := hid HB2.out.size
 have HO0 : Hid (w2.ownsRow W.heap.size 90 2 (.slice none 0 0) 0 (wrCells (fmtB ln cl g 0))) := World.ownsRow_nil _ _ _ _
 generalize BK.w ⟨g, 0, 176⟩ = bw at *
 go_loopw [6, 33] (fun v i wr => ∃ (k : Nat) (A1 : Option Addr) (m1 c1 : Nat), k ≤ perC cl ∧ i = .int .i64 k ∧ v = .slice A1 m1 c1 ∧ m1 = k ∧ Hid (wr.ownsRow W.heap.size 90 2 (.slice A1 m1 c1) m1 (wrCells (fmtB ln cl g k))) ∧ Hid (Below W.heap.size W wr)) (fun _ i _ => perC cl - (intOf i).toNat)
 case atStart => exact ⟨0, _, _, _, Nat.zero_le _, rfl, rfl, rfl, HO0, HB2⟩
 case round =>
  clear HO0 HB2
  obtain ⟨k, A1, m1, c1, hk, rfl, rfl, hm1', HO, H⟩ := hrel
  by_cases hlt : k < perC cl
  ·have hz5 : (0 : Int) ≤ (k : Int) := by omega
   have hz6 : (k : Int) < (perC cl : Int) := by omega
   have hm2 : m1 ≤ 62 := by omega
   have HM := hid hm1'
   have HOk := hid (HOf.out k hlt wr H.out)
   have hol := HOl.out k hlt
   have c0 : wr.cell? ⟨w.heap.size, 0, none⟩ = some (.int .i64 (cl : Int)) := (HK0.out.below H.out HK0.out.lt).cell 0
   have HEQ : Hid (wrCells (fmtB ln cl g k) ++ [.int .u64 ((z + 8 * offB cl k : Nat) : Int), .int .u64 (bw : Int)] = wrCells (fmtB ln cl g (k + 1))) := hid (by rw [HBs.out]; simp [wrCells])
   generalize offB cl k = ob at *
   have u1 : IntKind.u64.wrap (ob : Int) = (ob : Int) := by rw [IntKind.wrap_u64]; omega
   have u2 : IntKind.u64.wrap ((ob : Int) * 8) = (ob : Int) * 8 := by rw [IntKind.wrap_u64]; omega
   have u3 : IntKind.u64.wrap ((z : Int) + (ob : Int) * 8) = ((z + 8 * ob : Nat) : Int) := by rw [IntKind.wrap_u64]; omega
   have hy9 : z + 8 * ob < 9000000000 := by omega
   generalize z + 8 * ob = y at *
   have HLE := hid H.out.size
   have HOD := hid (HO.out.alloc (.cells #[.int .u64 (y : Int), .int .u64 (bw : Int)] 90))
   have HBD := hid (H.out.alloc H.out.size (.cells #[.int .u64 (y : Int), .int .u64 (bw : Int)] 90))
   clear H HO hm1'
   go_wp2_with (first
    | (go_at_call 239; refine HOk.out.mono ?_; rintro e w3 ⟨rfl, rfl⟩)
    | (go_at_call 209; refine (HSt.out _).mono ?_; rintro e w3 ⟨rfl, rfl⟩)
    | (at_builtin; refine wpList_app _ (.tmp 43) (.tmp 52) 68 rfl rfl W.heap.size 90 i0 _ 2 16 Tryz.underlying68 hi0 hz0 hz1 hz2 rfl ?q1 (.slice A1 m1 c1) m1 (wrCells (fmtB ln cl g k)) rfl HOD.out (wr.heap.size + 1) (some ⟨wr.heap.size, 0, none⟩) 1 1 [.int .u64 (y : Int), .int .u64 (bw : Int)] rfl ?q5 ?q6 ?q2 ?q3 ?q4 ?_; (case q1 => omega); (case q5 => exact row_reads_at _ _ rfl _ 1 2 90 _ rfl rfl); (case q6 => (intro u hu; simp at hu; rcases hu with rfl | rfl <;> rfl)); (case q2 => (unfold maxLen; omega)); (case q3 => omega); (case q4 => (have := HLE.out; simp; omega)); intro A3 n3 c3 w8 hn3 ho3 hg3 hb3; have HN3 := hid hn3; have HO3 := hid ho3; have HB3 := hid (HBD.out.trans hb3); clear hn3 ho3 hg3 hb3)
    | go_in)
   have b1 : n3 = k + 1 := by have := HN3.out; have := HM.out; omega
   have HO4 : Hid (w8.ownsRow W.heap.size 90 2 (.slice A3 n3 c3) n3 (wrCells (fmtB ln cl g (k + 1)))) := hid (by have h := HO3.out; rw [HEQ.out] at h; exact h)
   go_roundw
   case rel =>
    first
     | exact ⟨k + 1, _, _, _, by omega, by go_num, rfl, b1, HO4, HB3⟩
     | (
       repeat apply Exists.intro
       refine ⟨?_, rfl⟩
       exact ⟨k + 1, _, _, _, by omega, by go_num, rfl, b1, HO4, HB3⟩)
   case measure => simp [intOf]; omega
  ·have hkp : perC cl = k := by omega
   clear HOf HOl HPC HBw
   have HO0 : Hid (wr.ownsRow W.heap.size 90 2 (.slice A1 m1 c1) m1 (wrCells (fmtB ln cl g (perC cl) ++ fmtZ ln 0))) := hid (by rw [hkp]; simp only [fmtZ, List.range_zero, List.map_nil, List.append_nil]; exact HO.out)
   have hm2 : m1 ≤ 62 := by omega
   have HM0 := hid (show m1 = perC cl by omega)
   have hd1 : decide ((k : Int) < (perC cl : Int)) = false := decide_eq_false (by omega)
   have hd2 : decide (k < perC cl) = false := decide_eq_false hlt
   clear HO hkp hm1' hk hlt
   go_wp2
   clear hd1 hd2
   go_loopw [6, 11] (fun v i wr => ∃ (j : Nat) (A2 : Option Addr) (m2 c2 : Nat), j ≤ 7 ∧ i = .int .u64 ((j + 1 : Nat) : Int) ∧ v = .slice A2 m2 c2 ∧ m2 = m1 + j ∧ Hid (wr.ownsRow W.heap.size 90 2 (.slice A2 m2 c2) m2 (wrCells (fmtB ln cl g (perC cl) ++ fmtZ ln j))) ∧ Hid (Below W.heap.size W wr)) (fun _ i _ => 8 - (intOf i).toNat)
   case atStart => exact ⟨0, _, _, _, Nat.zero_le _, rfl, rfl, rfl, HO0, H⟩
   case round =>
    clear HO0 H
    obtain ⟨j, A2, m2, c2, hj, rfl, rfl, hm2', HO, H⟩ := hrel
    by_cases hlt : j < 7
    ·have d8 : decide (((j + 1 : Nat) : Int) < 8) = true := decide_eq_true (by omega)
     have d8n : decide (j + 1 < 8) = true := decide_eq_true (by omega)
     have hm3 : m2 ≤ 80 := by omega
     have HM := hid hm2'
     have HEQ : Hid (wrCells (fmtB ln cl g (perC cl) ++ fmtZ ln j) ++ [.int .u64 ((z + 8 * (j + 1) : Nat) : Int), .int .u64 0] = wrCells (fmtB ln cl g (perC cl) ++ fmtZ ln (j + 1))) := hid (by rw [HZs.out]; simp [wrCells])
     have u2 : IntKind.u64.wrap (((j + 1 : Nat) : Int) * 8) = ((j + 1 : Nat) : Int) * 8 := by rw [IntKind.wrap_u64]; omega
     have u3 : IntKind.u64.wrap ((z : Int) + ((j + 1 : Nat) : Int) * 8) = ((z + 8 * (j + 1) : Nat) : Int) := by rw [IntKind.wrap_u64]; omega
     have u4 : IntKind.u64.wrap (((j + 1 : Nat) : Int) + 1) = ((j + 1 + 1 : Nat) : Int) := by rw [IntKind.wrap_u64]; omega
     have hy9 : z + 8 * (j + 1) < 9000000000 := by omega
     generalize z + 8 * (j + 1) = y at *
     have hj2 : j + 1 + 1 ≤ 8 := by omega
     have HJ : Hid (∃ j2, j2 = j + 1) := hid ⟨_, rfl⟩
     generalize hj1 : j + 1 = j1 at *
     generalize hj3 : j1 + 1 = j3 at *
     have HJ1 := hid hj1
     have HJ3 := hid hj3
     clear hj1 hj3 HJ
     have HLE := hid H.out.size
     have HOD := hid (HO.out.alloc (.cells #[.int .u64 (y : Int), .int .u64 0] 90))
     have HBD := hid (H.out.alloc H.out.size (.cells #[.int .u64 (y : Int), .int .u64 0] 90))
     clear H HO hm2'
     go_wp2_with (first
      | (go_at_call 209; refine (HSt.out _).mono ?_; rintro e w3 ⟨rfl, rfl⟩)
      | (at_builtin; refine wpList_app _ (.tmp 59) (.tmp 66) 68 rfl rfl W.heap.size 90 i0 _ 2 16 Tryz.underlying68 hi0 hz0 hz1 hz2 rfl ?q1 (.slice A2 m2 c2) m2 (wrCells (fmtB ln cl g (perC cl) ++ fmtZ ln j)) rfl HOD.out (wr.heap.size + 1) (some ⟨wr.heap.size, 0, none⟩) 1 1 [.int .u64 (y : Int), .int .u64 0] rfl ?q5 ?q6 ?q2 ?q3 ?q4 ?_; (case q1 => omega); (case q5 => exact row_reads_at _ _ rfl _ 1 2 90 _ rfl rfl); (case q6 => (intro u hu; simp at hu; rcases hu with rfl | rfl <;> rfl)); (case q2 => (unfold maxLen; omega)); (case q3 => omega); (case q4 => (have := HLE.out; simp; omega)); intro A3 n3 c3 w8 hn3 ho3 hg3 hb3; have HN3 := hid hn3; have HO3 := hid ho3; have HB3 := hid (HBD.out.trans hb3); clear hn3 ho3 hg3 hb3)
      | go_in)
     have b1 : n3 = m1 + (j + 1) := by have := HN3.out; have := HM.out; omega
     have HO4 : Hid (w8.ownsRow W.heap.size 90 2 (.slice A3 n3 c3) n3 (wrCells (fmtB ln cl g (perC cl) ++ fmtZ ln (j + 1)))) := hid (by have h := HO3.out; rw [HEQ.out, ← HJ1.out] at h; exact h)
     have HV : Hid ((j3 : Int) = ((j + 1 + 1 : Nat) : Int)) := hid (by rw [← HJ3.out, ← HJ1.out])
     go_roundw
     case rel =>
      first
       | exact ⟨j + 1, _, _, _, by omega, by rw [← HV.out], rfl, b1, HO4, HB3⟩
       | (
         repeat apply Exists.intro
         refine ⟨?_, rfl⟩
         exact ⟨j + 1, _, _, _, by omega, by rw [← HV.out], rfl, b1, HO4, HB3⟩)
     case measure => (have h1 := HJ1.out; have h3 := HJ3.out; simp [intOf]; omega)
    ·have hj7 : j = 7 := by omega
     subst hj7
     have HOF : Hid (wr.ownsRow W.heap.size 90 2 (.slice A2 m2 c2) m2 (wrCells (fmtW ln cl g))) := HO
     have HM2 : Hid (m2 ≤ 69 ∧ 0 < m2) := hid (by have := HM0.out; omega)
     have HVs : Hid (∀ e ∈ fmtW ln cl g, e.1 < 18446744073709551616) := hid (fun e he => by
      unfold fmtW at he
      rcases List.mem_append.1 he with he | he
      ·obtain ⟨i, hi, rfl⟩ := fmtB_mem he
       have := off_lt hi
       have := HZ.out
       show 64 * ln + 8 * offB cl i < _
       omega
      ·obtain ⟨i, hi, rfl⟩ := fmtZ_mem he
       have := HZ.out
       show 64 * ln + 8 * (i + 1) < _
       omega)
     clear HO hm2' hlt hj HM0 hm2 HBs HZs
     go_wp2_with fail
     refine wp_region_script (fun w' => Below W.heap.size W w') 4 [(true, 0), (true, 2), (false, 1), (false, 3)] (by kernel_rfl) (by kernel_rfl) H.out.drew ?_
     refine wpScript_take (.int .i64 (ln : Int)) (by rfl) (by rfl) (fun w' hS => ?_) ?_
     ·go_simp
     simp only [zA, zB, Act.put, zD, zE, zF]
     refine wpScript_take (.agg #[.int .i64 (cl : Int), .int .i64 0, .int .u16 (g : Int)]) (by rfl) (by rfl) (fun w' hS => ?_) ?_
     ·have f0 : w'.cell? ⟨w.heap.size, 0, none⟩ = some (.int .i64 (cl : Int)) := (HK0.out.below hS HK0.out.lt).cell 0
      have f1 : w'.cell? ⟨w.heap.size, 1, none⟩ = some (.int .i64 0) := (HK0.out.below hS HK0.out.lt).cell 1
      have f2 : w'.cell? ⟨w.heap.size, 2, none⟩ = some (.int .u16 (g : Int)) := (HK0.out.below hS HK0.out.lt).cell 2
      go_simp
     simp only [zA, zB, zC, Act.put, zD, zE, zF]
     refine wpScript_do (by rfl) ?_
     go_wp2_with fail
     refine (HSt.out _).mono ?_
     rintro e w4 ⟨rfl, rfl⟩
     go_wp2_with fail
     refine ⟨H.out.drew, ?_⟩
     refine wpScript_do (by rfl) ?_
     go_wp2_with fail
     refine (HWd.out _ H.out.drew).mono ?_
     rintro e w5 ⟨rfl, hb5⟩
     have HBd : Hid (Below wr.heap.size wr w5) := hid ((Below.refl _ wr).drew.trans hb5)
     have HB5 := hid (H.out.trans (HBd.out.mono H.out.size))
     have HO5 := hid (own_below HOF.out HBd.out)
     have HX : Hid (hdrW cl g = hdrW cl g) := hid rfl
     generalize hhd : hdrW cl g = hd at *
     have HHD := hid hhd
     have HS1 := hid (stores_small _ 1 1 _ _ (one_reads w5 z hd) (by omega) (by omega) (fun e he => by simp at he; subst he; show z < _; omega))
     have HB6 : Hid (∀ o, Below W.heap.size W (w5.alloc o)) := hid (fun o => HB5.out.alloc HB5.out.size o)
     have HO6 : Hid (∀ o, (w5.alloc o).ownsRow W.heap.size 90 2 (.slice A2 m2 c2) m2 (wrCells (fmtW ln cl g))) := hid (fun o => HO5.out.alloc o)
     clear hb5 hhd HX HOF HO5 HWd HBd
     go_wp2_with fail
     refine ⟨HB5.out, ?_⟩
     show wpList _ _ _ _ _ _
     simp only [List.drop_succ_cons, List.drop_zero]
     go_wp2_with (go_at_call 73; refine HS1.out.mono ?_; intro e w6 h1; obtain ⟨A4, m4, c4, p4, rfl, hp4, ho4, hb4⟩ := h1; refine stop ?_)
     unfold Stop
     have HB7 := hid ((HB6.out _).trans (hb4.mono (HB6.out _).size))
     have HO7 := hid (own_below (HO6.out _) hb4)
     have HP4 := hid hp4
     have HO4 := hid (own_le ho4 (HB6.out _).size)
     have HS2 := hid (stores_small A2 m2 c2 (fmtW ln cl g) w6 (Reads.of_own HO7.out) HM2.out.2 (by have := HM2.out; omega) HVs.out)
     have h4l := stores_len hp4
     have hm4 : m4 ≤ 400 := by have h := ho4.1; rw [insCells_len] at h; simp at h4l; omega
     clear hp4 ho4 hb4 HS1 HB6 HO6 HO7 HB5 H h4l
     go_wp2_with fail
     refine NoPanic.normal ?_
     go_wp2_with (go_at_call 73; refine HS2.out.mono ?_; intro e w7 h1; obtain ⟨A5, m5, c5, p5, rfl, hp5, ho5, hb5⟩ := h1; refine stop ?_)
     unfold Stop
     have HO8 := hid (own_below HO4.out hb5)
     have h5l := stores_len hp5
     have hm5 : m5 ≤ 400 := by have h := ho5.1; rw [insCells_len] at h; rw [fmtW_len] at h5l; have := per_le cl; omega
     have HTh := hid (then_any A5 A4 m5 c5 m4 c4 p5 p4 w7 (Reads.of_own ho5) (Reads.of_own HO8.out) hm5 hm4)
     have HP5 := hid hp5
     have HB8 := hid (HB7.out.trans (hb5.mono HB7.out.size))
     clear hp5 ho5 hb5 HS2 HO4 HO8 HB7 h5l
     go_wp2_with fail
     refine HTh.out.mono ?_
     rintro e w8 ⟨A6, m6, c6, rfl, hm6, ho6, hb6⟩
     have HO9 := hid (own_le (base' := w.heap.size) ho6 (Nat.le_trans HB0.out.size HB8.out.size))
     have HB9 := hid (HB0.out.trans ((HB8.out.trans (hb6.mono HB8.out.size)).mono HB0.out.size))
     clear ho6 hb6 hm6 HTh HB8
     go_wp2
     go_ret2
     refine ⟨_, _, _, _, rfl, ⟨p5, p4, rfl, HP5.out, ?_⟩, HO9.out, HB9.out⟩
     rw [HZ.out, HHD.out]
     exact HP4.out
end
end
end Go.Proofs.YtnlokpakiambaaaGreatDoor
