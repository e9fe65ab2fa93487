/- Walks: the law SchemaParses. -/
import Derived.Test.YtophcoaikelopaaDoorWZA
import Derived.Test.YtophcoaikelopaaDoorXC
import Derived.Test.YtophcoaikelopaaDoorRowC
import Derived.Test.YtophcoaikelopaaDoorOrdC
namespace Go.Proofs.YtophcoaikelopaaDoor
open Go.RowKit
attribute [local go_sem ↓] Go.wp_at_zero Go.wp_at_succ
set_option maxRecDepth 100000 in
set_option maxHeartbeats 8000000 in
theorem schemaParses_walk (l : List UInt8) (A : Option Addr) (n c : Nat) (w : World) (hT : Tabs w) (hr : Reads w w.heap.size 1 A n (bv l)) (hn : n ≤ c) (hc : c ≤ 9223372036854775807) :
    Calls Tryd.prog 7 #[.slice A n c] w fun e w' => e = .returned (.bool true) ∧ Below w.heap.size w w' := by
  have HT := Lib.hid hT
  have HR := Lib.hid hr
  clear hT hr
  by_cases hbig : 3000 < n
  · have e1 : decide ((3000 : Int) < (n : Int)) = true := decide_eq_true (by omega)
    have e2 : decide (3000 < n) = true := decide_eq_true hbig
    go_enter Tryd.func7, Tryd.ntmps7
    go_wp2_with fail
    refine (awake_any _ HT.out).mono ?_
    rintro e w1 ⟨rfl, hb1⟩
    have HB1 := Lib.hid hb1
    clear hb1
    go_wp2
    go_ret
    exact ⟨rfl, HB1.out⟩
  · have e1 : decide ((3000 : Int) < (n : Int)) = false := decide_eq_false (by omega)
    have e2 : decide (3000 < n) = false := decide_eq_false hbig
    have HP := Lib.hid (fun W (hb : Below w.heap.size w W) => parse_any A n c l W (HT.out.below hb) ((HR.out.below hb).more hb.size) hn hc)
    have HQ := Lib.hid (fun W (hb : Below w.heap.size w W) => refParse_any A n c l W ((HR.out.below hb).more hb.size) hn hc)
    have HCV : Hid (∀ W, Below w.heap.size w W → (convert 60 9 (.slice A n c)).run Tryd.prog W = .ok (.string ⟨l.toArray⟩) W) := fun W hb => conv_str c (HR.out.below hb)
    have HPS := Lib.hid (fun t (h : parse l = some t) => good_of (parse_sound h).1)
    have h3 : ((⟨l.toArray⟩ : ByteArray).toList == (⟨l.toArray⟩ : ByteArray).toList) = true := by simp
    generalize (⟨l.toArray⟩ : ByteArray) = sb at *
    generalize parse l = R at *
    clear HR
    go_enter Tryd.func7, Tryd.ntmps7
    go_wp2_with fail
    refine (awake_any _ HT.out).mono ?_
    rintro e w1 ⟨rfl, hb1⟩
    have HB1 := Lib.hid hb1
    have c1 := HCV.out _ hb1
    clear hb1
    go_wp2_with fail
    clear c1
    refine (HP.out _ HB1.out).mono ?_
    cases R with
    | none =>
      rintro e w2 ⟨rfl, hb2⟩
      have HB2 := Lib.hid (HB1.out.trans (hb2.mono HB1.out.size))
      have HG2 := Lib.hid (Blk.new w2 51 #[.string ⟨#[]⟩, .int .i64 0, .slice none 0 0, .slice none 0 0, .int .u64 0, .int .u64 0])
      have HW2 := Lib.hid (HB2.out.alloc HB2.out.size (.cells #[.string ⟨#[]⟩, .int .i64 0, .slice none 0 0, .slice none 0 0, .int .u64 0, .int .u64 0] 51))
      clear hb2 HP HPS
      go_wp2_with fail
      refine (HQ.out _ HW2.out).mono ?_
      rintro e w3 ⟨rfl, hb3⟩
      have HB3 := Lib.hid ((HW2.out.trans (hb3.mono HW2.out.size)).alloc (HW2.out.trans (hb3.mono HW2.out.size)).size (.cells #[.string ⟨#[]⟩, .int .i64 0, .slice none 0 0, .slice none 0 0, .int .u64 0, .int .u64 0] 44))
      have HG3 := Lib.hid ((HG2.out.below hb3 HG2.out.lt).alloc (.cells #[.string ⟨#[]⟩, .int .i64 0, .slice none 0 0, .slice none 0 0, .int .u64 0, .int .u64 0] 44))
      have c2 := HCV.out _ HB3.out
      have g0 : (w3.alloc (.cells #[.string ⟨#[]⟩, .int .i64 0, .slice none 0 0, .slice none 0 0, .int .u64 0, .int .u64 0] 44)).cell? ⟨w2.heap.size, 0, none⟩ = some (.string ⟨#[]⟩) := HG3.out.cell 0
      have g1 : (w3.alloc (.cells #[.string ⟨#[]⟩, .int .i64 0, .slice none 0 0, .slice none 0 0, .int .u64 0, .int .u64 0] 44)).cell? ⟨w2.heap.size, 1, none⟩ = some (.int .i64 0) := HG3.out.cell 1
      have g2 : (w3.alloc (.cells #[.string ⟨#[]⟩, .int .i64 0, .slice none 0 0, .slice none 0 0, .int .u64 0, .int .u64 0] 44)).cell? ⟨w2.heap.size, 2, none⟩ = some (.slice none 0 0) := HG3.out.cell 2
      have g3 : (w3.alloc (.cells #[.string ⟨#[]⟩, .int .i64 0, .slice none 0 0, .slice none 0 0, .int .u64 0, .int .u64 0] 44)).cell? ⟨w2.heap.size, 3, none⟩ = some (.slice none 0 0) := HG3.out.cell 3
      have g4 : (w3.alloc (.cells #[.string ⟨#[]⟩, .int .i64 0, .slice none 0 0, .slice none 0 0, .int .u64 0, .int .u64 0] 44)).cell? ⟨w2.heap.size, 4, none⟩ = some (.int .u64 0) := HG3.out.cell 4
      have g5 : (w3.alloc (.cells #[.string ⟨#[]⟩, .int .i64 0, .slice none 0 0, .slice none 0 0, .int .u64 0, .int .u64 0] 44)).cell? ⟨w2.heap.size, 5, none⟩ = some (.int .u64 0) := HG3.out.cell 5
      clear hb3 HQ HG2
      go_wp2_with fail
      generalize w3.alloc (.cells #[.string ⟨#[]⟩, .int .i64 0, .slice none 0 0, .slice none 0 0, .int .u64 0, .int .u64 0] 44) = W at *
      refine (back_is (TblIs.zero _) (by decide) (by decide)).mono ?_
      rintro e w4 ⟨v4, rfl, h4, hb4⟩
      have HY := Lib.hid h4
      have HB4 := Lib.hid (HB3.out.trans (hb4.mono HB3.out.size))
      clear h4 hb4 c2 g0 g1 g2 g3 g4 g5
      go_wp2_with fail
      refine (same_is HY.out (TblIs.zero _) (by decide) (by decide)).mono ?_
      rintro e w5 ⟨rfl, hb5⟩
      have HB5 := Lib.hid (HB4.out.trans (hb5.mono HB4.out.size))
      clear hb5
      go_wp2
      go_ret
      exact ⟨rfl, HB5.out⟩
    | some t =>
      rintro e w2 ⟨v2, rfl, h2, hb2⟩
      obtain ⟨Ag, ng, cg, Bg, mg, dg, rfl, y1, y2, y3, y4⟩ := id h2
      have HB2 := Lib.hid (HB1.out.trans (hb2.mono HB1.out.size))
      have HG2 := Lib.hid (Blk.new w2 51 #[.string t.name, .int .i64 t.ver, .slice Ag ng cg, .slice Bg mg dg, .int .u64 (t.rows : Int), .int .u64 (t.ents : Int)])
      have HX2 := Lib.hid (h2.below ((Below.refl _ _).alloc (Nat.le_refl _) (.cells #[.string t.name, .int .i64 t.ver, .slice Ag ng cg, .slice Bg mg dg, .int .u64 (t.rows : Int), .int .u64 (t.ents : Int)] 51)))
      have HW2 := Lib.hid (HB2.out.alloc HB2.out.size (.cells #[.string t.name, .int .i64 t.ver, .slice Ag ng cg, .slice Bg mg dg, .int .u64 (t.rows : Int), .int .u64 (t.ents : Int)] 51))
      have HGD := Lib.hid (HPS.out t rfl)
      have hc1 : t.cols.length ≤ 1000 := by have := HGD.out.ncols; omega
      have hc2 : t.idxs.length ≤ 1000 := by have := HGD.out.nidx; omega
      clear hb2 HP HPS h2 y1 y2 y3 y4
      go_wp2_with fail
      refine (HQ.out _ HW2.out).mono ?_
      rintro e w3 ⟨v3, rfl, h3', hb3⟩
      obtain ⟨Aq, nq, cq, Bq, mq, dq, rfl, y1, y2, y3, y4⟩ := id h3'
      have HB3 := Lib.hid ((HW2.out.trans (hb3.mono HW2.out.size)).alloc (HW2.out.trans (hb3.mono HW2.out.size)).size (.cells #[.string t.name, .int .i64 t.ver, .slice Aq nq cq, .slice Bq mq dq, .int .u64 (t.rows : Int), .int .u64 (t.ents : Int)] 44))
      have HG3 := Lib.hid ((HG2.out.below hb3 HG2.out.lt).alloc (.cells #[.string t.name, .int .i64 t.ver, .slice Aq nq cq, .slice Bq mq dq, .int .u64 (t.rows : Int), .int .u64 (t.ents : Int)] 44))
      have HX3 := Lib.hid ((HX2.out.below hb3).below ((Below.refl _ _).alloc (Nat.le_refl _) (.cells #[.string t.name, .int .i64 t.ver, .slice Aq nq cq, .slice Bq mq dq, .int .u64 (t.rows : Int), .int .u64 (t.ents : Int)] 44)))
      have HQ3 := Lib.hid (h3'.below ((Below.refl _ _).alloc (Nat.le_refl _) (.cells #[.string t.name, .int .i64 t.ver, .slice Aq nq cq, .slice Bq mq dq, .int .u64 (t.rows : Int), .int .u64 (t.ents : Int)] 44)))
      have HK3 := Lib.hid (Blk.new w3 44 #[.string t.name, .int .i64 t.ver, .slice Aq nq cq, .slice Bq mq dq, .int .u64 (t.rows : Int), .int .u64 (t.ents : Int)])
      have c2 := HCV.out _ HB3.out
      clear hb3 HQ HG2 HX2 h3' y1 y2 y3 y4
      go_wp2_with fail
      clear c2
      generalize w3.alloc (.cells #[.string t.name, .int .i64 t.ver, .slice Aq nq cq, .slice Bq mq dq, .int .u64 (t.rows : Int), .int .u64 (t.ents : Int)] 44) = W at *
      have HBD : Hid (Below W.heap.size W W.drew) := (Below.refl _ _).drew
      refine wp_region_script (fun w' => Below W.heap.size W w') 7 [(true, 0), (true, 1), (true, 2), (true, 3), (true, 5), (false, 4), (false, 6)] (by kernel_rfl) (by kernel_rfl) HBD.out ?_
      refine wpScript_take (.int .i64 0) (by rfl) (by rfl) (fun w' hS => ?_) ?_
      · go_simp
      simp only [List.getElem_toArray, List.getElem_cons_zero, Act.put, List.setIfInBounds_toArray, List.set_cons_zero, List.set_cons_succ]
      refine wpScript_take (.bool true) (by rfl) (by rfl) (fun w' hS => ?_) ?_
      · go_simp
      simp only [List.getElem_toArray, List.getElem_cons_zero, List.getElem_cons_succ, Act.put, List.setIfInBounds_toArray, List.set_cons_zero, List.set_cons_succ]
      refine wpScript_take (.bool true) (by rfl) (by rfl) (fun w' hS => ?_) ?_
      · go_simp
      simp only [List.getElem_toArray, List.getElem_cons_zero, List.getElem_cons_succ, Act.put, List.setIfInBounds_toArray, List.set_cons_zero, List.set_cons_succ]
      refine wpScript_take (.agg #[.string t.name, .int .i64 t.ver, .slice Ag ng cg, .slice Bg mg dg, .int .u64 (t.rows : Int), .int .u64 (t.ents : Int)]) (by rfl) (by rfl) (fun w' hS => ?_) ?_
      · have f0 : w'.cell? ⟨w2.heap.size, 0, none⟩ = some (.string t.name) := (HG3.out.below hS HG3.out.lt).cell 0; have f1 : w'.cell? ⟨w2.heap.size, 1, none⟩ = some (.int .i64 t.ver) := (HG3.out.below hS HG3.out.lt).cell 1; have f2 : w'.cell? ⟨w2.heap.size, 2, none⟩ = some (.slice Ag ng cg) := (HG3.out.below hS HG3.out.lt).cell 2; have f3 : w'.cell? ⟨w2.heap.size, 3, none⟩ = some (.slice Bg mg dg) := (HG3.out.below hS HG3.out.lt).cell 3; have f4 : w'.cell? ⟨w2.heap.size, 4, none⟩ = some (.int .u64 (t.rows : Int)) := (HG3.out.below hS HG3.out.lt).cell 4; have f5 : w'.cell? ⟨w2.heap.size, 5, none⟩ = some (.int .u64 (t.ents : Int)) := (HG3.out.below hS HG3.out.lt).cell 5
        go_simp
      simp only [List.getElem_toArray, List.getElem_cons_zero, List.getElem_cons_succ, Act.put, List.setIfInBounds_toArray, List.set_cons_zero, List.set_cons_succ]
      refine wpScript_take (.agg #[.string t.name, .int .i64 t.ver, .slice Aq nq cq, .slice Bq mq dq, .int .u64 (t.rows : Int), .int .u64 (t.ents : Int)]) (by rfl) (by rfl) (fun w' hS => ?_) ?_
      · have f0 : w'.cell? ⟨w3.heap.size, 0, none⟩ = some (.string t.name) := (HK3.out.below hS HK3.out.lt).cell 0; have f1 : w'.cell? ⟨w3.heap.size, 1, none⟩ = some (.int .i64 t.ver) := (HK3.out.below hS HK3.out.lt).cell 1; have f2 : w'.cell? ⟨w3.heap.size, 2, none⟩ = some (.slice Aq nq cq) := (HK3.out.below hS HK3.out.lt).cell 2; have f3 : w'.cell? ⟨w3.heap.size, 3, none⟩ = some (.slice Bq mq dq) := (HK3.out.below hS HK3.out.lt).cell 3; have f4 : w'.cell? ⟨w3.heap.size, 4, none⟩ = some (.int .u64 (t.rows : Int)) := (HK3.out.below hS HK3.out.lt).cell 4; have f5 : w'.cell? ⟨w3.heap.size, 5, none⟩ = some (.int .u64 (t.ents : Int)) := (HK3.out.below hS HK3.out.lt).cell 5
        go_simp
      simp only [List.getElem_toArray, List.getElem_cons_zero, List.getElem_cons_succ, Act.put, List.setIfInBounds_toArray, List.set_cons_zero, List.set_cons_succ]
      refine wpScript_do (by rfl) ?_
      go_wp2_with fail
      refine (back_is (HX3.out.below HBD.out) hc1 hc2).mono ?_
      rintro e w7 ⟨v7, rfl, h7, hb7⟩
      have HB7 := Lib.hid (HBD.out.trans (hb7.mono HBD.out.size))
      have HY := Lib.hid h7
      clear h7 hb7
      go_wp2_with fail
      refine ⟨HB7.out, ?_⟩
      refine wpScript_do (by rfl) ?_
      go_wp2_with fail
      refine (same_is HY.out (HQ3.out.below HB7.out) hc1 hc2).mono ?_
      rintro e w8 ⟨rfl, hb8⟩
      have HB8 := Lib.hid (HB7.out.trans (hb8.mono HB7.out.size))
      clear hb8
      go_wp2_with fail
      refine ⟨HB8.out, ?_⟩
      show wpList _ _ _ _ _ _
      simp only [List.drop_succ_cons, List.drop_zero]
      go_wp2_with fail
      refine NoPanic.normal ?_
      go_wp2
      go_ret
      exact ⟨rfl, HB3.out.trans (HB8.out.mono HB3.out.size)⟩
theorem schemaParses_law (w : World) (hT : Tabs w) {v1 : Value} (l : List UInt8) (h1 : BytesIs w v1 l) :
    Calls Tryd.prog 7 #[v1] w fun e w' => e = .returned (.bool true) ∧ Below w.heap.size w w' := by
  obtain ⟨A, n, c, rfl, h1, h2, h3⟩ := h1
  exact schemaParses_walk l A n c w hT h1 h2 h3
end Go.Proofs.YtophcoaikelopaaDoor
