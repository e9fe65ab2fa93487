/- Walks: the reference's Bytes. -/
import Derived.Test.YtophcoaikelopaaDoorWU
import Derived.Deep.DrawnRows
namespace Go.Proofs.YtophcoaikelopaaDoor
open Go.RowKit
attribute [local go_sem ↓] Go.wp_at_zero Go.wp_at_succ

theorem blk_reads {w : World} {g : Nat} {cs : Array Value} {l : List UInt8} (h : Blk w g 5 cs) (hc : cs = (bv l).toArray) : Reads w w.heap.size 1 (some ⟨g, 0, none⟩) l.length (bv l) := by
  refine ⟨by rw [bv_len, Nat.mul_one], fun _ => ⟨_, rfl, h.lt, fun j u hu => ?_⟩⟩
  have ha : (⟨g, 0, none⟩ : Addr).add j = ⟨g, j, none⟩ := by unfold Addr.add; split <;> simp_all
  rw [ha, h.cell j, hc]
  simpa using hu
/-- Bytes of the call's own, behind a call. -/
def RetO (w : World) (xs : List UInt8) (e : Ending) (w' : World) : Prop :=
  ∃ A n c, e = .returned (.slice A n c) ∧ w'.ownsRow w.heap.size 5 1 (.slice A n c) n (bv xs) ∧ Below w.heap.size w w'
set_option maxRecDepth 100000 in
set_option maxHeartbeats 16000000 in
theorem refBytes_good (t : Tbl) (A A2 : Option Addr) (n c n2 c2 : Nat) (w : World) (hc : Reads w w.heap.size 9 A n (colCells t.cols)) (hx : Reads w w.heap.size 2 A2 n2 (idxCells t.idxs)) (hv : valid t = 0) :
    Calls Tryd.prog 27 #[.agg #[.string t.name, .int .i64 t.ver, .slice A n c, .slice A2 n2 c2, .int .u64 (t.rows : Int), .int .u64 (t.ents : Int)]] w (RetO w (enc t)) := by
  have HG := Lib.hid (good_of hv)
  have HLC := Lib.hid (show t.cols.length = n by have := hc.1; rw [colCells_len] at this; omega)
  have HLX := Lib.hid (show t.idxs.length = n2 by have := hx.1; rw [idxCells_len] at this; omega)
  have hn : n ≤ 8 := by have := HG.out.ncols; have := HLC.out; omega
  have hn2 : n2 ≤ 4 := by have := HG.out.nidx; have := HLX.out; omega
  have hnm := HG.out.name
  have HC := Lib.hid hc
  have HX := Lib.hid hx
  have HF : Hid (∀ W s, Below w.heap.size w W → Calls Tryd.prog 23 #[.agg #[.string t.name, .int .i64 t.ver, .slice A n c, .slice A2 n2 c2, .int .u64 (t.rows : Int), .int .u64 (t.ents : Int)], .string s] W fun e w' => e = .returned (.int .i64 (findC t.cols s)) ∧ Below W.heap.size W w') :=
    fun W s hb => refFind_any t.cols A n c s _ _ _ _ _ W ((HC.out.below hb).more hb.size) (by omega)
  clear hc hx hv
  have HV1 := Lib.hid (VInv.new 44 w #[.string t.name, .int .i64 t.ver, .slice A n c, .slice A2 n2 c2, .int .u64 (t.rows : Int), .int .u64 (t.ents : Int)])
  have hs1 : w.heap.size + 1 ≤ w.heap.size + 1 := Nat.le_refl _
  have HO1 : Hid (∀ (W : World), W.heap.size = w.heap.size + 1 → (W.alloc (.cells #[.int .u8 1] 5)).ownsRow (w.heap.size + 1) 5 1 (.slice (some ⟨w.heap.size + 1, 0, none⟩) 1 1) 1 (bv [1])) := fun W hW => by
    have h := own_new W (w.heap.size + 1) [1] _ rfl (by omega) (by simp)
    rw [hW] at h
    exact h
  go_enter Tryd.func27, Tryd.ntmps27
  go_wp2_with (first
    | (go_at_call 47; refine (refText_any (w.heap.size + 1) _ _ _ t.name [1] _ ?q1 ?q2 ?q3 ?q4).mono ?_; (case q1 => exact HO1.out _ (by simp)); (case q2 => (simp)); (case q3 => omega); (case q4 => omega); rintro e w2 ⟨A3, n3, c3, rfl, ho3, hg3⟩; have HE3 := Lib.hid (EInv.chg ⟨(HV1.out.alloc _).below, (HV1.out.alloc _).arg, HO1.out _ (by simp)⟩ hg3 ho3); have hn3 : n3 ≤ 18 := (by have := own_len ho3; simp [txt_len] at this; omega); have a1 : w2.cell? ⟨w.heap.size, 1, none⟩ = some (.int .i64 t.ver) := HE3.out.arg.cell 1; clear ho3 hg3)
    | (go_at_call 48; refine (refNumber_any (w.heap.size + 1) A3 n3 c3 (t.ver % 18446744073709551616) 2 2 rfl ([1] ++ txt t.name) _ HE3.out.own HE3.out.size (by omega) (by omega) (by omega) (by omega)).mono ?_; rw [leN_2]; rintro e w3 ⟨A4, n4, c4, rfl, ho4, hg4⟩; have HE4 := Lib.hid (HE3.out.chg hg4 ho4); have hn4 : n4 ≤ 20 := (by have := own_len ho4; have := own_len HE3.out.own; simp [le2, txt_len] at *; omega); have a2 : ∀ o, (w3.alloc o).cell? ⟨w.heap.size, 2, none⟩ = some (.slice A n c) := (fun o => (HE4.out.alloc o).arg.cell 2); have a2' : w3.cell? ⟨w.heap.size, 2, none⟩ = some (.slice A n c) := (HE4.out.arg.cell 2); clear ho4 hg4)
    | (at_builtin; refine wpList_appB _ (.tmp 18) (.tmp 23) rfl rfl (w.heap.size + 1) A4 n4 c4 ([1] ++ txt t.name ++ le2 t.ver) rfl (HE4.out.alloc _).own (w3.heap.size + 1) (some ⟨w3.heap.size, 0, none⟩) 1 1 [lowB n] rfl ?r5 ?r2 ?r4 ?_; (case r5 => (exact list_reads w3 [lowB n] _ (low_small n (by omega)))); (case r2 => omega); (case r4 => exact (HE4.out.alloc _).size); intro A5 n5 c5 w4 hn5 ho5 hg5; have HE5 := Lib.hid ((HE4.out.alloc _).chg hg5 ho5); have hn5' : n5 ≤ 30 := (by omega); have a3 : w4.cell? ⟨w.heap.size, 2, none⟩ = some (.slice A n c) := (HE5.out.arg.cell 2); clear hn5 ho5 hg5))
  have HEH : Hid ([1] ++ txt t.name ++ le2 t.ver ++ [lowB n] = encHead t ++ encCols (t.cols.take 0)) := show _ = _ by rw [encHead, HLC.out]; simp [encCols]
  rw [HEH.out] at HE5
  clear HE4 HE3 HV1 HEH hn4 hn3 a1 a2 a2' a3 hs1 HO1
  go_loopw [3, 28] (fun p i wr => ∃ (k : Nat) (A' : Option Addr) (n' c' : Nat), k ≤ n ∧ i = .int .i64 k ∧ p = .slice A' n' c' ∧ n' ≤ 30 + k * 230 ∧ Hid (EInv 44 w wr #[.string t.name, .int .i64 t.ver, .slice A n c, .slice A2 n2 c2, .int .u64 (t.rows : Int), .int .u64 (t.ents : Int)] A' n' c' (encHead t ++ encCols (t.cols.take k)))) (fun _ i _ => n - (intOf i).toNat)
  case atStart => exact ⟨0, _, _, _, Nat.zero_le _, rfl, rfl, by omega, HE5⟩
  case round =>
    clear HE5 hn5'
    obtain ⟨k, A', n', c', hk, rfl, rfl, hn', hinv⟩ := hrel
    by_cases hlt : k < n
    · obtain ⟨hl, b1, off, hA, hbB, f0, f1, f2, f3, f4, f5, f6, f7, f8⟩ := col_facts (HC.out.below hinv.out.below) hlt
      subst hA
      have hcn := HG.out.cname k hl
      have hct := HG.out.ctext k hl
      have hcy := HG.out.cty k hl
      have HTK : Hid (encHead t ++ encCols (t.cols.take k) ++ txt t.cols[k].name ++ [lowB t.cols[k].ty] ++ [flagB t.cols[k].null] ++ le2 t.cols[k].since ++ valEnc t.cols[k].d = encHead t ++ encCols (t.cols.take (k + 1))) := show _ = _ by rw [encCols_snoc t.cols k hl]; simp only [colEnc, List.append_assoc, List.cons_append, List.nil_append]
      generalize t.cols[k] = cc at *
      have HB0 := Lib.hid (Blk.new wr 25 #[.string cc.name, .int .u8 (cc.ty : Int), .bool cc.null, .int .i64 cc.since, .int .u8 (cc.d.ty : Int), .bool cc.d.null, .int .i64 cc.d.int, .string cc.d.text, .bool cc.d.bool])
      have HEa := Lib.hid (hinv.out.alloc (.cells #[.string cc.name, .int .u8 (cc.ty : Int), .bool cc.null, .int .i64 cc.since, .int .u8 (cc.d.ty : Int), .bool cc.d.null, .int .i64 cc.d.int, .string cc.d.text, .bool cc.d.bool] 25)).drew
      have HEb := fun o => Lib.hid ((hinv.out.alloc (.cells #[.string cc.name, .int .u8 (cc.ty : Int), .bool cc.null, .int .i64 cc.since, .int .u8 (cc.d.ty : Int), .bool cc.d.null, .int .i64 cc.d.int, .string cc.d.text, .bool cc.d.bool] 25)).alloc o).drew
      have HNE0 := Lib.hid (own_ne hinv.out.own (g := wr.heap.size) (.inr (Nat.le_refl _))).symm
      have HNE1 := Lib.hid (own_ne hinv.out.own (g := wr.heap.size + 1) (.inr (Nat.le_succ _))).symm
      have HVE : Hid (valEnc cc.d = flagB (!cc.d.null) :: (if cc.d.null then [] else if cc.d.ty = 1 then le4 cc.d.int else if cc.d.ty = 2 then txt cc.d.text else [flagB cc.d.bool])) := show _ = _ from rfl
      have HVL := Lib.hid (valEnc_len cc.d hct)
      have hty1 : IntKind.u64.wrap cc.since = cc.since % 18446744073709551616 := IntKind.wrap_u64 _
      go_wp2
      clear f0 f1 f2 f3 f4 f5 f6 f7 f8
      go_region_held3 (fun w' => w'.cell? ⟨wr.heap.size, 0, none⟩ = some (.string cc.name) ∧ w'.cell? ⟨wr.heap.size, 1, none⟩ = some (.int .u8 (cc.ty : Int)) ∧ w'.cell? ⟨wr.heap.size, 2, none⟩ = some (.bool cc.null) ∧ w'.cell? ⟨wr.heap.size, 3, none⟩ = some (.int .i64 cc.since)) (first | go_keep | (refine ⟨?_, ?_, ?_, ?_⟩ <;> assumption))
        ((first
          | (refine step_appB _ (by rfl) _ _ (by rfl) (w.heap.size + 1) A6 n6 c6 (encHead t ++ encCols (t.cols.take k) ++ txt cc.name) (by rfl) (HE6.out.alloc _).own (w5.heap.size + 1) (some ⟨w5.heap.size, 0, none⟩) 1 1 [lowB cc.ty] (by rfl) (list_reads w5 [lowB cc.ty] _ (low_small _ (by omega))) (by omega) (HE6.out.alloc _).size ?_; intro A7 n7 c7 w6 hn7 ho7 hg7; have HE7 := Lib.hid ((HE6.out.alloc _).chg hg7 ho7); have HB7 := Lib.hid ((HB6.out.alloc _).chg hg7 (own_blk_ne HE6.out.own HB6.out (by decide))); have hn7' : n7 ≤ 49 + k * 230 := (by omega); have z0 : w6.cell? ⟨wr.heap.size, 0, none⟩ = some (.string cc.name) := HB7.out.cell 0; have z1 : w6.cell? ⟨wr.heap.size, 1, none⟩ = some (.int .u8 (cc.ty : Int)) := HB7.out.cell 1; have z2 : w6.cell? ⟨wr.heap.size, 2, none⟩ = some (.bool cc.null) := HB7.out.cell 2; have z3 : w6.cell? ⟨wr.heap.size, 3, none⟩ = some (.int .i64 cc.since) := HB7.out.cell 3; clear hn7 ho7 hg7)
          | (refine step_appB _ (by rfl) _ _ (by rfl) (w.heap.size + 1) A6 n6 c6 (encHead t ++ encCols (t.cols.take k) ++ txt cc.name) (by rfl) HE6.out.own w5.heap.size (some ⟨wr.heap.size + 1, 0, none⟩) 1 1 [lowB cc.ty] (by rfl) (HBy.out (Blk.new1 wr _ 5 _).drew) (by omega) HE6.out.size ?_; intro A7 n7 c7 w6 hn7 ho7 hg7; have HE7 := Lib.hid (HE6.out.chg hg7 ho7); have HB7 := Lib.hid (HB6.out.chg hg7 (own_blk_ne HE6.out.own HB6.out (by decide))); have hn7' : n7 ≤ 49 + k * 230 := (by omega); have z0 : w6.cell? ⟨wr.heap.size, 0, none⟩ = some (.string cc.name) := HB7.out.cell 0; have z1 : w6.cell? ⟨wr.heap.size, 1, none⟩ = some (.int .u8 (cc.ty : Int)) := HB7.out.cell 1; have z2 : w6.cell? ⟨wr.heap.size, 2, none⟩ = some (.bool cc.null) := HB7.out.cell 2; have z3 : w6.cell? ⟨wr.heap.size, 3, none⟩ = some (.int .i64 cc.since) := HB7.out.cell 3; clear hn7 ho7 hg7)
          | (go_at_call 47; refine (refText_any (w.heap.size + 1) A' n' c' cc.name (encHead t ++ encCols (t.cols.take k)) _ ?q1 ?q2 ?q3 ?q4).mono ?_; (case q1 => first | exact HEa.out.own | exact (HEb _).out.own); (case q2 => first | exact HEa.out.size | exact (HEb _).out.size); (case q3 => omega); (case q4 => omega); rintro e w5 ⟨A6, n6, c6, rfl, ho6, hg6⟩; have HE6 : Hid (EInv 44 w w5 #[.string t.name, .int .i64 t.ver, .slice (some ⟨b1, off, none⟩) n c, .slice A2 n2 c2, .int .u64 (t.rows : Int), .int .u64 (t.ents : Int)] A6 n6 c6 (encHead t ++ encCols (t.cols.take k) ++ txt cc.name)) := (by first | exact HEa.out.chg hg6 ho6 | exact (HEb _).out.chg hg6 ho6); have HB6 : Hid (Blk w5 wr.heap.size 25 #[.string cc.name, .int .u8 (cc.ty : Int), .bool cc.null, .int .i64 cc.since, .int .u8 (cc.d.ty : Int), .bool cc.d.null, .int .i64 cc.d.int, .string cc.d.text, .bool cc.d.bool]) := (by first | exact Blk.chg HB0.out.drew hg6 HNE0.out | exact Blk.chg (HB0.out.alloc _).drew hg6 HNE0.out); have HBy := Lib.hid (fun (hh : Blk _ (wr.heap.size + 1) 5 #[.int .u8 (cc.ty : Int)]) => blk_reads (l := [lowB cc.ty]) (Blk.chg hh hg6 HNE1.out) (low_small _ (by omega))); have hn6 : n6 ≤ 48 + k * 230 := (by have h1 := own_len ho6; have h2 := own_len hinv.out.own; rw [List.length_append, txt_len] at h1; omega); have s0 : w5.cell? ⟨wr.heap.size, 0, none⟩ = some (.string cc.name) := HB6.out.cell 0; have s1 : w5.cell? ⟨wr.heap.size, 1, none⟩ = some (.int .u8 (cc.ty : Int)) := HB6.out.cell 1; have s2 : w5.cell? ⟨wr.heap.size, 2, none⟩ = some (.bool cc.null) := HB6.out.cell 2; have s3 : w5.cell? ⟨wr.heap.size, 3, none⟩ = some (.int .i64 cc.since) := HB6.out.cell 3; clear ho6 hg6)
          | (go_at_call 49; refine (refFlag_any (w.heap.size + 1) A7 n7 c7 cc.null (encHead t ++ encCols (t.cols.take k) ++ txt cc.name ++ [lowB cc.ty]) _ HE7.out.own HE7.out.size (by omega)).mono ?_; rintro e w7 ⟨A8, n8, c8, rfl, ho8, hg8⟩; have HE8 := Lib.hid (HE7.out.chg hg8 ho8); have HB8 := Lib.hid (HB7.out.chg hg8 (own_blk_ne HE7.out.own HB7.out (by decide))); have hn8 : n8 ≤ 50 + k * 230 := (by have h1 := own_len ho8; have h2 := own_len HE7.out.own; rw [List.length_append] at h1; simp only [List.length_cons, List.length_nil] at h1; omega); have y0 : w7.cell? ⟨wr.heap.size, 0, none⟩ = some (.string cc.name) := HB8.out.cell 0; have y1 : w7.cell? ⟨wr.heap.size, 1, none⟩ = some (.int .u8 (cc.ty : Int)) := HB8.out.cell 1; have y2 : w7.cell? ⟨wr.heap.size, 2, none⟩ = some (.bool cc.null) := HB8.out.cell 2; have y3 : w7.cell? ⟨wr.heap.size, 3, none⟩ = some (.int .i64 cc.since) := HB8.out.cell 3; clear ho8 hg8)
          | (go_at_call 48; refine (refNumber_any (w.heap.size + 1) A8 n8 c8 (cc.since % 18446744073709551616) 2 2 rfl (encHead t ++ encCols (t.cols.take k) ++ txt cc.name ++ [lowB cc.ty] ++ [flagB cc.null]) _ HE8.out.own HE8.out.size (by omega) (by omega) (by omega) (by omega)).mono ?_; rw [leN_2]; rintro e w8 ⟨A9, n9, c9, rfl, ho9, hg9⟩; have HE9 := Lib.hid (HE8.out.chg hg9 ho9); have HB9 := Lib.hid (HB8.out.chg hg9 (own_blk_ne HE8.out.own HB8.out (by decide))); have hn9 : n9 ≤ 52 + k * 230 := (by have h1 := own_len ho9; have h2 := own_len HE8.out.own; rw [List.length_append] at h1; simp only [le2, List.length_cons, List.length_nil] at h1; omega); have x0 : w8.cell? ⟨wr.heap.size, 0, none⟩ = some (.string cc.name) := HB9.out.cell 0; have x1 : w8.cell? ⟨wr.heap.size, 1, none⟩ = some (.int .u8 (cc.ty : Int)) := HB9.out.cell 1; have x2 : w8.cell? ⟨wr.heap.size, 2, none⟩ = some (.bool cc.null) := HB9.out.cell 2; have x3 : w8.cell? ⟨wr.heap.size, 3, none⟩ = some (.int .i64 cc.since) := HB9.out.cell 3; clear ho9 hg9)))
      all_goals
        clear hty1
        generalize cc.d.null = nl at *
        have x4 : w8.cell? ⟨wr.heap.size, 4, none⟩ = some (.int .u8 (cc.d.ty : Int)) := HB9.out.cell 4
        have x5 : w8.cell? ⟨wr.heap.size, 5, none⟩ = some (.bool nl) := HB9.out.cell 5
        have x6 : w8.cell? ⟨wr.heap.size, 6, none⟩ = some (.int .i64 cc.d.int) := HB9.out.cell 6
        have x7 : w8.cell? ⟨wr.heap.size, 7, none⟩ = some (.string cc.d.text) := HB9.out.cell 7
        have x8 : w8.cell? ⟨wr.heap.size, 8, none⟩ = some (.bool cc.d.bool) := HB9.out.cell 8
        have HBV := Lib.hid (Blk.new w8 23 #[.int .u8 (cc.d.ty : Int), .bool nl, .int .i64 cc.d.int, .string cc.d.text, .bool cc.d.bool])
        have HEV := Lib.hid (HE9.out.alloc (.cells #[.int .u8 (cc.d.ty : Int), .bool nl, .int .i64 cc.d.int, .string cc.d.text, .bool cc.d.bool] 23))
        have HNEV := Lib.hid (own_ne HE9.out.own (g := w8.heap.size) (.inr (Nat.le_refl _))).symm
        have HFL := Lib.hid (refFlag_any (w.heap.size + 1) A9 n9 c9 (!nl) (encHead t ++ encCols (t.cols.take k) ++ txt cc.name ++ [lowB cc.ty] ++ [flagB cc.null] ++ le2 cc.since) (w8.alloc (.cells #[.int .u8 (cc.d.ty : Int), .bool nl, .int .i64 cc.d.int, .string cc.d.text, .bool cc.d.bool] 23)) HEV.out.own HEV.out.size (by omega))
        cases nl with
        | true =>
          have HTE : Hid (encHead t ++ encCols (t.cols.take k) ++ txt cc.name ++ [lowB cc.ty] ++ [flagB cc.null] ++ le2 cc.since ++ [flagB (!true)] = encHead t ++ encCols (t.cols.take (k + 1))) := show _ = _ by rw [← HTK.out, HVE.out]; rfl
          go_wp2_with (go_at_call 49; refine HFL.out.mono ?_; rintro e wf ⟨Af, nf, cf, rfl, hof, hgf⟩; have HEf := Lib.hid (HEV.out.chg hgf hof); have HBf := Lib.hid (HBV.out.chg hgf HNEV.out); have hnf : nf ≤ 53 + k * 230 := (by have h1 := own_len hof; have h2 := own_len HE9.out.own; rw [List.length_append] at h1; simp only [List.length_cons, List.length_nil] at h1; omega); have v0 : wf.cell? ⟨w8.heap.size, 0, none⟩ = some (.int .u8 (cc.d.ty : Int)) := HBf.out.cell 0; have v1 : wf.cell? ⟨w8.heap.size, 1, none⟩ = some (.bool true) := HBf.out.cell 1; have v2 : wf.cell? ⟨w8.heap.size, 2, none⟩ = some (.int .i64 cc.d.int) := HBf.out.cell 2; have v3 : wf.cell? ⟨w8.heap.size, 3, none⟩ = some (.string cc.d.text) := HBf.out.cell 3; have v4 : wf.cell? ⟨w8.heap.size, 4, none⟩ = some (.bool cc.d.bool) := HBf.out.cell 4; clear hof hgf HFL)
          rw [HTE.out] at HEf
          go_roundw
          case rel => exact ⟨k + 1, Af, nf, cf, by omega, by go_num, rfl, by omega, HEf⟩
          case measure => simp [intOf]; omega
        | false =>
          by_cases ht1 : cc.d.ty = 1
          · have HTE : Hid (encHead t ++ encCols (t.cols.take k) ++ txt cc.name ++ [lowB cc.ty] ++ [flagB cc.null] ++ le2 cc.since ++ [flagB (!false)] ++ le4 cc.d.int = encHead t ++ encCols (t.cols.take (k + 1))) := show _ = _ by rw [← HTK.out, HVE.out]; simp only [Bool.false_eq_true, if_false, if_pos ht1, List.append_assoc, List.cons_append, List.nil_append]
            have e1 : ((cc.d.ty : Int) == 1) = true := by rw [beq_iff_eq]; omega
            clear ht1
            go_wp2_with (first
              | (go_at_call 49; refine HFL.out.mono ?_; rintro e wf ⟨Af, nf, cf, rfl, hof, hgf⟩; have HEf := Lib.hid (HEV.out.chg hgf hof); have HBf := Lib.hid (HBV.out.chg hgf HNEV.out); have hnf : nf ≤ 53 + k * 230 := (by have h1 := own_len hof; have h2 := own_len HE9.out.own; rw [List.length_append] at h1; simp only [List.length_cons, List.length_nil] at h1; omega); have v0 : wf.cell? ⟨w8.heap.size, 0, none⟩ = some (.int .u8 (cc.d.ty : Int)) := HBf.out.cell 0; have v1 : wf.cell? ⟨w8.heap.size, 1, none⟩ = some (.bool false) := HBf.out.cell 1; have v2 : wf.cell? ⟨w8.heap.size, 2, none⟩ = some (.int .i64 cc.d.int) := HBf.out.cell 2; have v3 : wf.cell? ⟨w8.heap.size, 3, none⟩ = some (.string cc.d.text) := HBf.out.cell 3; have v4 : wf.cell? ⟨w8.heap.size, 4, none⟩ = some (.bool cc.d.bool) := HBf.out.cell 4; clear hof hgf HFL)
              | (go_at_call 48; refine (refNumber_any (w.heap.size + 1) Af nf cf (cc.d.int % 18446744073709551616) 4 4 rfl (encHead t ++ encCols (t.cols.take k) ++ txt cc.name ++ [lowB cc.ty] ++ [flagB cc.null] ++ le2 cc.since ++ [flagB (!false)]) _ HEf.out.own HEf.out.size (by omega) (by omega) (by omega) (by omega)).mono ?_; rw [leN_4]; rintro e wg ⟨Ag, ng, cg, rfl, hog, hgg⟩; have HEg := Lib.hid (HEf.out.chg hgg hog); have hng : ng ≤ 57 + k * 230 := (by have h1 := own_len hog; have h2 := own_len HEf.out.own; rw [List.length_append] at h1; simp only [le4, List.length_cons, List.length_nil] at h1; omega); clear hog hgg))
            rw [HTE.out] at HEg
            go_roundw
            case rel => exact ⟨k + 1, Ag, ng, cg, by omega, by go_num, rfl, by omega, HEg⟩
            case measure => simp [intOf]; omega
          · by_cases ht2 : cc.d.ty = 2
            · have HTE : Hid (encHead t ++ encCols (t.cols.take k) ++ txt cc.name ++ [lowB cc.ty] ++ [flagB cc.null] ++ le2 cc.since ++ [flagB (!false)] ++ txt cc.d.text = encHead t ++ encCols (t.cols.take (k + 1))) := show _ = _ by rw [← HTK.out, HVE.out]; simp only [Bool.false_eq_true, if_false, if_neg ht1, if_pos ht2, List.append_assoc, List.cons_append, List.nil_append]
              have e1 : ((cc.d.ty : Int) == 1) = false := by rw [beq_eq_false_iff_ne]; omega
              have e2 : ((cc.d.ty : Int) == 2) = true := by rw [beq_iff_eq]; omega
              clear ht1 ht2
              go_wp2_with (first
                | (go_at_call 49; refine HFL.out.mono ?_; rintro e wf ⟨Af, nf, cf, rfl, hof, hgf⟩; have HEf := Lib.hid (HEV.out.chg hgf hof); have HBf := Lib.hid (HBV.out.chg hgf HNEV.out); have hnf : nf ≤ 53 + k * 230 := (by have h1 := own_len hof; have h2 := own_len HE9.out.own; rw [List.length_append] at h1; simp only [List.length_cons, List.length_nil] at h1; omega); have v0 : wf.cell? ⟨w8.heap.size, 0, none⟩ = some (.int .u8 (cc.d.ty : Int)) := HBf.out.cell 0; have v1 : wf.cell? ⟨w8.heap.size, 1, none⟩ = some (.bool false) := HBf.out.cell 1; have v2 : wf.cell? ⟨w8.heap.size, 2, none⟩ = some (.int .i64 cc.d.int) := HBf.out.cell 2; have v3 : wf.cell? ⟨w8.heap.size, 3, none⟩ = some (.string cc.d.text) := HBf.out.cell 3; have v4 : wf.cell? ⟨w8.heap.size, 4, none⟩ = some (.bool cc.d.bool) := HBf.out.cell 4; clear hof hgf HFL)
                | (go_at_call 47; refine (refText_any (w.heap.size + 1) Af nf cf cc.d.text (encHead t ++ encCols (t.cols.take k) ++ txt cc.name ++ [lowB cc.ty] ++ [flagB cc.null] ++ le2 cc.since ++ [flagB (!false)]) _ HEf.out.own HEf.out.size (by omega) (by omega)).mono ?_; rintro e wg ⟨Ag, ng, cg, rfl, hog, hgg⟩; have HEg := Lib.hid (HEf.out.chg hgg hog); have hng : ng ≤ 254 + k * 230 := (by have h1 := own_len hog; have h2 := own_len HEf.out.own; rw [List.length_append, txt_len] at h1; omega); clear hog hgg))
              rw [HTE.out] at HEg
              go_roundw
              case rel => exact ⟨k + 1, Ag, ng, cg, by omega, by go_num, rfl, by omega, HEg⟩
              case measure => simp [intOf]; omega
            · have HTE : Hid (encHead t ++ encCols (t.cols.take k) ++ txt cc.name ++ [lowB cc.ty] ++ [flagB cc.null] ++ le2 cc.since ++ [flagB (!false)] ++ [flagB cc.d.bool] = encHead t ++ encCols (t.cols.take (k + 1))) := show _ = _ by rw [← HTK.out, HVE.out]; simp only [Bool.false_eq_true, if_false, if_neg ht1, if_neg ht2, List.append_assoc, List.cons_append, List.nil_append]
              have e1 : ((cc.d.ty : Int) == 1) = false := by rw [beq_eq_false_iff_ne]; omega
              have e2 : ((cc.d.ty : Int) == 2) = false := by rw [beq_eq_false_iff_ne]; omega
              have HFB := fun (A : Option Addr) (n c : Nat) (W : World) (ho : W.ownsRow (w.heap.size + 1) 5 1 (.slice A n c) n (bv (encHead t ++ encCols (t.cols.take k) ++ txt cc.name ++ [lowB cc.ty] ++ [flagB cc.null] ++ le2 cc.since ++ [flagB (!false)]))) (hb : w.heap.size + 1 ≤ W.heap.size) (hn : n ≤ 2000000) => Lib.hid (refFlag_any (w.heap.size + 1) A n c cc.d.bool (encHead t ++ encCols (t.cols.take k) ++ txt cc.name ++ [lowB cc.ty] ++ [flagB cc.null] ++ le2 cc.since ++ [flagB (!false)]) W ho hb hn)
              clear ht1 ht2
              go_wp2_with fail
              refine HFL.out.mono ?_; rintro e wf ⟨Af, nf, cf, rfl, hof, hgf⟩; have HEf := Lib.hid (HEV.out.chg hgf hof); have HBf := Lib.hid (HBV.out.chg hgf HNEV.out); have hnf : nf ≤ 53 + k * 230 := (by have h1 := own_len hof; have h2 := own_len HE9.out.own; rw [List.length_append] at h1; simp only [List.length_cons, List.length_nil] at h1; omega); have v0 : wf.cell? ⟨w8.heap.size, 0, none⟩ = some (.int .u8 (cc.d.ty : Int)) := HBf.out.cell 0; have v1 : wf.cell? ⟨w8.heap.size, 1, none⟩ = some (.bool false) := HBf.out.cell 1; have v2 : wf.cell? ⟨w8.heap.size, 2, none⟩ = some (.int .i64 cc.d.int) := HBf.out.cell 2; have v3 : wf.cell? ⟨w8.heap.size, 3, none⟩ = some (.string cc.d.text) := HBf.out.cell 3; have v4 : wf.cell? ⟨w8.heap.size, 4, none⟩ = some (.bool cc.d.bool) := HBf.out.cell 4; clear hof hgf HFL
              go_wp2_with fail
              refine (HFB _ _ _ _ HEf.out.own HEf.out.size (by omega)).out.mono ?_
              rintro e wg ⟨Ag, ng, cg, rfl, hog, hgg⟩
              have HEg := Lib.hid (HEf.out.chg hgg hog)
              have hng : ng ≤ 54 + k * 230 := (by have h1 := own_len hog; have h2 := own_len HEf.out.own; rw [List.length_append] at h1; simp only [List.length_cons, List.length_nil] at h1; omega)
              clear hog hgg
              go_wp2
              rw [HTE.out] at HEg
              go_roundw
              case rel => exact ⟨k + 1, Ag, ng, cg, by omega, by go_num, rfl, by omega, HEg⟩
              case measure => simp [intOf]; omega
    · obtain rfl : n = k := by omega
      have HTA : Hid (encHead t ++ encCols (t.cols.take n) = encHead t ++ encCols t.cols) := show _ = _ by rw [List.take_of_length_le (by have := HLC.out; omega)]
      rw [HTA.out] at hinv
      clear hlt hk HTA
      have a3 : wr.cell? ⟨w.heap.size, 3, none⟩ = some (.slice A2 n2 c2) := hinv.out.arg.cell 3
      have a3' : ∀ o, (wr.alloc o).cell? ⟨w.heap.size, 3, none⟩ = some (.slice A2 n2 c2) := fun o => (hinv.out.alloc o).arg.cell 3
      go_wp2_with (at_builtin; refine wpList_appB _ (.tmp 79) (.tmp 84) rfl rfl (w.heap.size + 1) A' n' c' (encHead t ++ encCols t.cols) rfl (hinv.out.alloc _).own (wr.heap.size + 1) (some ⟨wr.heap.size, 0, none⟩) 1 1 [lowB n2] rfl ?r5 ?r2 ?r4 ?_; (case r5 => (exact list_reads wr [lowB n2] _ (low_small n2 (by omega)))); (case r2 => omega); (case r4 => exact (hinv.out.alloc _).size); intro A5 n5 c5 w4 hn5 ho5 hg5; have HE5 := Lib.hid ((hinv.out.alloc _).chg hg5 ho5); have hn5' : n5 ≤ 31 + n * 230 := (by omega); have a4 : w4.cell? ⟨w.heap.size, 3, none⟩ = some (.slice A2 n2 c2) := (HE5.out.arg.cell 3); clear hn5 ho5 hg5)
      have HEH : Hid (encHead t ++ encCols t.cols ++ [lowB n2] = encHead t ++ encCols t.cols ++ [lowB n2] ++ encIdxs t (t.idxs.take 0)) := show _ = _ by simp [encIdxs]
      rw [HEH.out] at HE5
      clear HEH a3 a3' a4 hinv hn'
      go_loopw [3, 89] (fun p i wr => ∃ (q : Nat) (A' : Option Addr) (n' c' : Nat), q ≤ n2 ∧ i = .int .i64 q ∧ p = .slice A' n' c' ∧ n' ≤ 31 + n * 230 + q * 2 ∧ Hid (EInv 44 w wr #[.string t.name, .int .i64 t.ver, .slice A n c, .slice A2 n2 c2, .int .u64 (t.rows : Int), .int .u64 (t.ents : Int)] A' n' c' (encHead t ++ encCols t.cols ++ [lowB n2] ++ encIdxs t (t.idxs.take q)))) (fun _ i _ => n2 - (intOf i).toNat)
      case atStart => exact ⟨0, _, _, _, Nat.zero_le _, rfl, rfl, by omega, HE5⟩
      case round =>
        clear HE5 hn5'
        obtain ⟨q, A', n', c', hk, rfl, rfl, hn', hinv⟩ := hrel
        by_cases hlt : q < n2
        · obtain ⟨hl, b1, off, hA, hbB, f0, f1⟩ := idx_facts (HX.out.below hinv.out.below) hlt
          subst hA
          have HTK : Hid (encHead t ++ encCols t.cols ++ [lowB n2] ++ encIdxs t (t.idxs.take q) ++ [lowB (findC t.cols t.idxs[q].col)] ++ [flagB t.idxs[q].uniq] = encHead t ++ encCols t.cols ++ [lowB n2] ++ encIdxs t (t.idxs.take (q + 1))) := show _ = _ by rw [encIdxs_snoc t t.idxs q hl]; simp only [idxEnc, List.append_assoc, List.cons_append, List.nil_append]
          have HFK := fun o => Lib.hid (HF.out (wr.alloc o).drew t.idxs[q].col (hinv.out.alloc o).drew.below)
          generalize findC t.cols t.idxs[q].col = fd at *
          generalize t.idxs[q] = cc at *
          have HB0 := Lib.hid (Blk.new wr 78 #[.string cc.col, .bool cc.uniq])
          have HW : Hid (#[Value.int .u8 (IntKind.u8.wrap fd)] = (bv [lowB fd]).toArray) := show _ = _ by rw [lowB_wrap]; rfl
          have g0 : ∀ o, (wr.alloc o).cell? ⟨w.heap.size, 0, none⟩ = some (.string t.name) := fun o => (hinv.out.alloc o).arg.cell 0
          have g1 : ∀ o, (wr.alloc o).cell? ⟨w.heap.size, 1, none⟩ = some (.int .i64 t.ver) := fun o => (hinv.out.alloc o).arg.cell 1
          have g2 : ∀ o, (wr.alloc o).cell? ⟨w.heap.size, 2, none⟩ = some (.slice A n c) := fun o => (hinv.out.alloc o).arg.cell 2
          have g3 : ∀ o, (wr.alloc o).cell? ⟨w.heap.size, 3, none⟩ = some (.slice (some ⟨b1, off, none⟩) n2 c2) := fun o => (hinv.out.alloc o).arg.cell 3
          have g4 : ∀ o, (wr.alloc o).cell? ⟨w.heap.size, 4, none⟩ = some (.int .u64 (t.rows : Int)) := fun o => (hinv.out.alloc o).arg.cell 4
          have g5 : ∀ o, (wr.alloc o).cell? ⟨w.heap.size, 5, none⟩ = some (.int .u64 (t.ents : Int)) := fun o => (hinv.out.alloc o).arg.cell 5
          go_wp2
          clear f0 f1
          go_region_held3 (fun w' => (w'.cell? ⟨wr.heap.size, 0, none⟩ = some (.string cc.col) ∧ w'.cell? ⟨wr.heap.size, 1, none⟩ = some (.bool cc.uniq)) ∧ w'.cell? ⟨w.heap.size, 0, none⟩ = some (.string t.name) ∧ w'.cell? ⟨w.heap.size, 1, none⟩ = some (.int .i64 t.ver) ∧ w'.cell? ⟨w.heap.size, 2, none⟩ = some (.slice A n c) ∧ w'.cell? ⟨w.heap.size, 3, none⟩ = some (.slice (some ⟨b1, off, none⟩) n2 c2) ∧ w'.cell? ⟨w.heap.size, 4, none⟩ = some (.int .u64 (t.rows : Int)) ∧ w'.cell? ⟨w.heap.size, 5, none⟩ = some (.int .u64 (t.ents : Int))) (first | go_keep | (refine ⟨⟨?_, ?_⟩, ?_, ?_, ?_, ?_, ?_, ?_⟩ <;> assumption))
            ((first
              | (refine step_appB _ (by rfl) _ _ (by rfl) (w.heap.size + 1) A' n' c' (encHead t ++ encCols t.cols ++ [lowB n2] ++ encIdxs t (t.idxs.take q)) (by rfl) (HE6.out.alloc _).own (w5.heap.size + 1) (some ⟨w5.heap.size, 0, none⟩) 1 1 [lowB fd] (by rfl) (list_reads w5 [lowB fd] _ (HW.out)) (by omega) (HE6.out.alloc _).size ?_; intro A7 n7 c7 w6 hn7 ho7 hg7; have HE7 := Lib.hid ((HE6.out.alloc _).chg hg7 ho7); have HB7 := Lib.hid ((HB6.out.alloc _).chg hg7 (own_blk_ne HE6.out.own HB6.out (by decide))); have hn7' : n7 ≤ 32 + n * 230 + q * 2 := (by omega); have z0 : w6.cell? ⟨wr.heap.size, 0, none⟩ = some (.string cc.col) := HB7.out.cell 0; have z1 : w6.cell? ⟨wr.heap.size, 1, none⟩ = some (.bool cc.uniq) := HB7.out.cell 1; have e0 : w6.cell? ⟨w.heap.size, 0, none⟩ = some (.string t.name) := HE7.out.arg.cell 0; have e1 : w6.cell? ⟨w.heap.size, 1, none⟩ = some (.int .i64 t.ver) := HE7.out.arg.cell 1; have e2 : w6.cell? ⟨w.heap.size, 2, none⟩ = some (.slice A n c) := HE7.out.arg.cell 2; have e3 : w6.cell? ⟨w.heap.size, 3, none⟩ = some (.slice (some ⟨b1, off, none⟩) n2 c2) := HE7.out.arg.cell 3; have e4 : w6.cell? ⟨w.heap.size, 4, none⟩ = some (.int .u64 (t.rows : Int)) := HE7.out.arg.cell 4; have e5 : w6.cell? ⟨w.heap.size, 5, none⟩ = some (.int .u64 (t.ents : Int)) := HE7.out.arg.cell 5; clear hn7 ho7 hg7)
              | (go_at_call 23; refine (HFK _).out.mono ?_; rintro e w5 ⟨rfl, hb6⟩; have HE6 := Lib.hid ((hinv.out.alloc _).drew.step hb6); have HB6 := Lib.hid (HB0.out.drew.below hb6 HB0.out.drew.lt); have s0 : w5.cell? ⟨wr.heap.size, 0, none⟩ = some (.string cc.col) := HB6.out.cell 0; have s1 : w5.cell? ⟨wr.heap.size, 1, none⟩ = some (.bool cc.uniq) := HB6.out.cell 1; have d0 : w5.cell? ⟨w.heap.size, 0, none⟩ = some (.string t.name) := HE6.out.arg.cell 0; have d1 : w5.cell? ⟨w.heap.size, 1, none⟩ = some (.int .i64 t.ver) := HE6.out.arg.cell 1; have d2 : w5.cell? ⟨w.heap.size, 2, none⟩ = some (.slice A n c) := HE6.out.arg.cell 2; have d3 : w5.cell? ⟨w.heap.size, 3, none⟩ = some (.slice (some ⟨b1, off, none⟩) n2 c2) := HE6.out.arg.cell 3; have d4 : w5.cell? ⟨w.heap.size, 4, none⟩ = some (.int .u64 (t.rows : Int)) := HE6.out.arg.cell 4; have d5 : w5.cell? ⟨w.heap.size, 5, none⟩ = some (.int .u64 (t.ents : Int)) := HE6.out.arg.cell 5; clear hb6)
              | (go_at_call 49; refine (refFlag_any (w.heap.size + 1) A7 n7 c7 cc.uniq (encHead t ++ encCols t.cols ++ [lowB n2] ++ encIdxs t (t.idxs.take q) ++ [lowB fd]) _ HE7.out.own HE7.out.size (by omega)).mono ?_; rintro e w7 ⟨A8, n8, c8, rfl, ho8, hg8⟩; have HE8 := Lib.hid (HE7.out.chg hg8 ho8); have HB8 := Lib.hid (HB7.out.chg hg8 (own_blk_ne HE7.out.own HB7.out (by decide))); have hn8 : n8 ≤ 31 + n * 230 + (q + 1) * 2 := (by have h1 := own_len ho8; have h2 := own_len HE7.out.own; rw [List.length_append] at h1; simp only [List.length_cons, List.length_nil] at h1; omega); have y0 : w7.cell? ⟨wr.heap.size, 0, none⟩ = some (.string cc.col) := HB8.out.cell 0; have y1 : w7.cell? ⟨wr.heap.size, 1, none⟩ = some (.bool cc.uniq) := HB8.out.cell 1; have x0 : w7.cell? ⟨w.heap.size, 0, none⟩ = some (.string t.name) := HE8.out.arg.cell 0; have x1 : w7.cell? ⟨w.heap.size, 1, none⟩ = some (.int .i64 t.ver) := HE8.out.arg.cell 1; have x2 : w7.cell? ⟨w.heap.size, 2, none⟩ = some (.slice A n c) := HE8.out.arg.cell 2; have x3 : w7.cell? ⟨w.heap.size, 3, none⟩ = some (.slice (some ⟨b1, off, none⟩) n2 c2) := HE8.out.arg.cell 3; have x4 : w7.cell? ⟨w.heap.size, 4, none⟩ = some (.int .u64 (t.rows : Int)) := HE8.out.arg.cell 4; have x5 : w7.cell? ⟨w.heap.size, 5, none⟩ = some (.int .u64 (t.ents : Int)) := HE8.out.arg.cell 5; clear ho8 hg8)))
          rw [HTK.out] at HE8
          go_wp2
          go_roundw
          case rel => exact ⟨q + 1, A8, n8, c8, by omega, by go_num, rfl, by omega, HE8⟩
          case measure => simp [intOf]; omega
        · obtain rfl : n2 = q := by omega
          have HTB : Hid (encHead t ++ encCols t.cols ++ [lowB n2] ++ encIdxs t (t.idxs.take n2) = enc t) := show _ = _ by rw [List.take_of_length_le (by have := HLX.out; omega), enc, HLX.out]
          rw [HTB.out] at hinv
          go_wp2
          go_ret
          exact ⟨A', n', c', rfl, own_mono hinv.out.own (Nat.le_succ _), hinv.out.below⟩
end Go.Proofs.YtophcoaikelopaaDoor
