/- Walks: the reference's Parse: the walk. -/
import Derived.Test.YtophcoaikelopaaDoorWZB
import Derived.Test.YtophcoaikelopaaDoorWC
import Derived.Test.YtophcoaikelopaaDoorOrdC
import Derived.Test.YtophcoaikelopaaDoorWV
namespace Go.Proofs.YtophcoaikelopaaDoor
open Go.RowKit
attribute [local go_sem ↓] Go.wp_at_zero Go.wp_at_succ
set_option maxRecDepth 100000 in
set_option maxHeartbeats 8000000 in
theorem refParse_any (A : Option Addr) (n c : Nat) (l : List UInt8) (w : World) (hr : Reads w w.heap.size 1 A n (bv l)) (hn : n ≤ c) (hc : c ≤ 9223372036854775807) :
    Calls Tryd.prog 31 #[.slice A n c] w (RetRP w (parse l)) := by
  by_cases hf : nb ⟨l, false⟩ = 1
  case neg => exact refParse_first A n c l w hr hn hc hf
  obtain ⟨res, hR⟩ : ∃ r, r = parse l := ⟨_, rfl⟩
  rw [← hR]
  have HR := Lib.hid hR
  have HL := Lib.hid hr
  have HS0 : Hid (∀ o, GSt ((w.alloc o).alloc (.cells #[.slice A n c, .bool false] 100)) w.heap.size (w.heap.size + 1) ⟨l, false⟩) := fun o => ⟨A, n, c, Blk.new1 w o 100 _, (hr.alloc (Nat.le_refl _) _).alloc (by simp) _, hn, hc, by omega⟩
  clear hr hR
  go_enter Tryd.func31, Tryd.ntmps31
  go_wp2_with fail
  refine (read1 w.heap.size (w.heap.size + 1) ⟨l, false⟩ _ (HS0.out _)).mono ?_
  rintro e w1 ⟨rfl, hs1, hg1⟩
  rw [hf]
  have hres := ((Blk.new w 44 #[.string ⟨#[]⟩, .int .i64 0, .slice none 0 0, .slice none 0 0, .int .u64 0, .int .u64 0]).alloc _).grown hg1 (fun e => by injection e; omega)
  have hg0 := (only_alloc (only_alloc (World.grownBy.refl w (some (w.heap.size + 1))) _) _).trans hg1
  have HB : Hid (Below w.heap.size w w1) := (Below.refl _ _).grown hg0 (Nat.le_refl _) (fun j hj => by injection hj with hj; omega)
  change GSt w1 w.heap.size (w.heap.size + 1) (R.pS1 l) at hs1
  have HQ0 : Hid (QInv w (w1.alloc (.cells #[.string ⟨#[]⟩, .int .i64 0, .slice none 0 0, .slice none 0 0, .int .u64 0, .int .u64 0] 44)) w1.heap.size ⟨#[]⟩ 0 (.slice none 0 0) (.slice none 0 0) 0 0 [] [] (R.pS1 l)) :=
    ⟨HB.out.alloc HB.out.size _, hres.alloc _, hs1.alloc _, Blk.new _ _ _, World.ownsRow_nil _ _ _ _, World.ownsRow_nil _ _ _ _, hs1.lt⟩
  clear hres hg0 hs1 hg1 HS0 HB hf
  go_wp2_with fail
  refine (read1 _ _ _ _ HQ0.out.rd).mono ?_
  rintro e w2 ⟨rfl, hs2, hg2⟩
  have HQ1 := Lib.hid (HQ0.out.read hs2 hg2)
  have hk := nb_lt (R.pS1 l)
  have HNM : Hid (R.pName l = ⟨(rdB (nb (R.pS1 l)) (gtS 1 (R.pS1 l))).toArray⟩) := show _ = _ from rfl
  have HTS : Hid (R.rdTextS (R.pS1 l) = gtS (nb (R.pS1 l)) (gtS 1 (R.pS1 l))) := show _ = _ from rfl
  generalize nb (R.pS1 l) = k0 at *
  generalize w1.heap.size = tb at *
  have HG := Lib.hid (get_rd _ _ k0 _ _ hs2 (by omega))
  clear hs2 hg2 HQ0
  go_wp2_with (go_at_call 57; refine HG.out.mono ?_; rintro e w3 ⟨Y, cy, rfl, hcy, hrd, hs3, hg3⟩; have hcv := conv_str cy hrd; have HQ2 := Lib.hid (HQ1.out.read hs3 hg3); have q0 : w3.cell? ⟨tb, 0, none⟩ = some (.string ⟨#[]⟩) := HQ2.out.tbl.cell 0; have qz0 := HQ2.out.tbl.frozen 0; clear hrd hs3 hg3)
  rw [← HTS.out] at HQ2
  have HQ3 : Hid (QInv w (w3.setCell ⟨tb, 0, none⟩ (.string ⟨(rdB k0 (gtS 1 (R.pS1 l))).toArray⟩)) tb (R.pName l) 0 (.slice none 0 0) (.slice none 0 0) 0 0 [] [] (R.rdTextS (R.pS1 l))) := HQ2.out.setAt 0 _ (by rw [HNM.out]; rfl)
  generalize w3.setCell ⟨tb, 0, none⟩ (.string ⟨(rdB k0 (gtS 1 (R.pS1 l))).toArray⟩) = w4 at *
  clear HQ1 HQ2 HG q0 qz0 hcv HNM HTS
  have HVR : Hid (R.pVer l = (nb2 (R.rdTextS (R.pS1 l)) : Int)) := show _ = _ from rfl
  have HS2 : Hid (R.pS2 l = gtS 2 (R.rdTextS (R.pS1 l))) := show _ = _ from rfl
  have hk2 := nb2_lt (R.rdTextS (R.pS1 l))
  refine (read2 _ _ _ _ HQ3.out.rd).mono ?_
  rintro e w5 ⟨rfl, hs5, hg5⟩
  have HQ4 := Lib.hid (HQ3.out.read hs5 hg5)
  generalize nb2 (R.rdTextS (R.pS1 l)) = v0 at *
  rw [← HS2.out] at HQ4
  have q1 : w5.cell? ⟨tb, 1, none⟩ = some (.int .i64 0) := HQ4.out.tbl.cell 1
  have qz1 := HQ4.out.tbl.frozen 1
  clear hs5 hg5 HQ3 HS2
  go_wp2_with fail
  have HQ5 : Hid (QInv w (w5.setCell ⟨tb, 1, none⟩ (.int .i64 (v0 : Int))) tb (R.pName l) (R.pVer l) (.slice none 0 0) (.slice none 0 0) 0 0 [] [] (R.pS2 l)) := HQ4.out.setAt 1 _ (by rw [HVR.out]; rfl)
  generalize w5.setCell ⟨tb, 1, none⟩ (.int .i64 (v0 : Int)) = w6 at *
  clear HQ4 HVR q1 qz1
  refine (read1 _ _ _ _ HQ5.out.rd).mono ?_
  rintro e w7 ⟨rfl, hs7, hg7⟩
  have HP1 := Lib.hid (HQ5.out.read hs7 hg7)
  have hpn : R.pN l < 256 := nb_lt _
  have HN : Hid (nb (R.pS2 l) = R.pN l) := show _ = _ from rfl
  clear hs7 hg7 HQ5
  rw [HN.out]
  generalize hnm : R.pName l = nm at *
  generalize hvr : R.pVer l = vr at *
  generalize hS0 : gtS 1 (R.pS2 l) = S0 at *
  generalize hN : R.pN l = N at *
  have HNM := Lib.hid hnm
  have HVR := Lib.hid hvr
  have HS0e := Lib.hid hS0
  have HNe := Lib.hid hN
  clear hnm hvr hS0 hN HN
  go_wp2
  go_loopw [28] (fun i wr => ∃ (k : Nat) (v : Value), k ≤ N ∧ i = .int .u64 k ∧ Hid (QInv w wr tb nm vr v (.slice none 0 0) k 0 (R.colsAt S0 k) [] (R.stAt S0 k))) (fun i _ => N - (intOf i).toNat)
  case atStart => exact ⟨0, _, Nat.zero_le _, rfl, HP1⟩
  case round =>
    clear HP1
    obtain ⟨k, v, hk, rfl, hinv⟩ := hrel
    by_cases hlt : k < N
    · have HST := Lib.hid (R.colsAt_succ S0 k)
      have HSS := Lib.hid (R.stAt_succ S0 k)
      generalize R.colsAt S0 k = cols at *
      generalize R.stAt S0 k = s at *
      have HCC := Lib.hid (show R.rdCol s = ⟨R.rdText s, nb (R.rdTextS s), nb (gtS 1 (R.rdTextS s)) == 1, nb2 (gtS 1 (gtS 1 (R.rdTextS s))), R.rdVal (nb (R.rdTextS s)) (gtS 2 (gtS 1 (gtS 1 (R.rdTextS s))))⟩ from rfl)
      have HCS := Lib.hid (show R.rdColS s = R.rdValS (nb (R.rdTextS s)) (gtS 2 (gtS 1 (gtS 1 (R.rdTextS s)))) from rfl)
      have HTX : Hid (R.rdText s = ⟨(rdB (nb s) (gtS 1 s)).toArray⟩) := show _ = _ from rfl
      have HTS : Hid (R.rdTextS s = gtS (nb s) (gtS 1 s)) := show _ = _ from rfl
      have HC0 := Lib.hid (CInv.new hinv.out #[.string ⟨#[]⟩, .int .u8 0, .bool false, .int .i64 0, .int .u8 0, .bool false, .int .i64 0, .string ⟨#[]⟩, .bool false])
      clear hinv
      go_wp2_with fail
      refine (read1 _ _ _ _ HC0.out.q.rd).mono ?_
      rintro e wa ⟨rfl, hsa, hga⟩
      have HCa := Lib.hid (HC0.out.read hsa hga)
      generalize wr.heap.size = cb at *
      have hkb := nb_lt s
      generalize nb s = k1 at *
      have HG := Lib.hid (get_rd _ _ k1 _ _ hsa (by omega))
      clear hsa hga HC0
      go_wp2_with (go_at_call 57; refine HG.out.mono ?_; rintro e wb ⟨Y, cy, rfl, hcy, hrd, hsb, hgb⟩; have hcv := conv_str cy hrd; have HCb := Lib.hid (HCa.out.read hsb hgb); have q0 : wb.cell? ⟨cb, 0, none⟩ = some (.string ⟨#[]⟩) := HCb.out.blk.cell 0; have qz0 := HCb.out.blk.frozen 0; clear hrd hsb hgb)
      rw [← HTX.out, ← HTS.out] at *
      have HCc := Lib.hid (HCb.out.set_ 0 (.string (R.rdText s)))
      generalize R.rdText s = name at *
      generalize R.rdTextS s = s1 at *
      generalize wb.setCell ⟨cb, 0, none⟩ (.string name) = wc at *
      clear HG HCa HCb q0 qz0 hcv HTX HTS
      refine (read1 _ _ _ _ HCc.out.q.rd).mono ?_
      rintro e wd ⟨rfl, hsd, hgd⟩
      have HCd := Lib.hid (HCc.out.read hsd hgd)
      have hty := nb_lt s1
      generalize nb s1 = ty at *
      have q1 : wd.cell? ⟨cb, 1, none⟩ = some (.int .u8 0) := HCd.out.blk.cell 1
      have qz1 := HCd.out.blk.frozen 1
      clear hsd hgd HCc
      go_wp2_with fail
      have HCe := Lib.hid (HCd.out.set_ 1 (.int .u8 (ty : Int)))
      generalize wd.setCell ⟨cb, 1, none⟩ (.int .u8 (ty : Int)) = we at *
      clear q1 qz1 HCd
      refine (read1 _ _ _ _ HCe.out.q.rd).mono ?_
      rintro e wf ⟨rfl, hsf, hgf⟩
      have HCf := Lib.hid (HCe.out.read hsf hgf)
      have HBB : Hid ((((nb (gtS 1 s1) : Nat) : Int) == 1) = (nb (gtS 1 s1) == 1)) := show _ = _ by
        generalize nb (gtS 1 s1) = q
        rw [Bool.eq_iff_iff]
        simp only [beq_iff_eq]
        omega
      generalize nb (gtS 1 s1) = q1 at *
      generalize hbq : (q1 == 1) = bq at *
      have hq1 : ((q1 : Int) == 1) = bq := HBB.out
      have q2 : wf.cell? ⟨cb, 2, none⟩ = some (.bool false) := HCf.out.blk.cell 2
      have qz2 := HCf.out.blk.frozen 2
      clear hsf hgf HCe hbq HBB
      go_wp2_with fail
      have HCg := Lib.hid (HCf.out.set_ 2 (.bool bq))
      generalize wf.setCell ⟨cb, 2, none⟩ (.bool bq) = wg at *
      clear q2 qz2 HCf hq1
      refine (read2 _ _ _ _ HCg.out.q.rd).mono ?_
      rintro e wh ⟨rfl, hsh, hgh⟩
      have HCh := Lib.hid (HCg.out.read hsh hgh)
      have hsi := nb2_lt (gtS 1 (gtS 1 s1))
      generalize nb2 (gtS 1 (gtS 1 s1)) = since at *
      generalize gtS 2 (gtS 1 (gtS 1 s1)) = s5 at *
      have q3 : wh.cell? ⟨cb, 3, none⟩ = some (.int .i64 0) := HCh.out.blk.cell 3
      have qz3 := HCh.out.blk.frozen 3
      have q4 : wh.cell? ⟨cb, 4, none⟩ = some (.int .u8 0) := HCh.out.blk.cell 4
      have qz4 := HCh.out.blk.frozen 4
      have q1' : wh.cell? ⟨cb, 1, none⟩ = some (.int .u8 (ty : Int)) := HCh.out.blk.cell 1
      clear hsh hgh HCg
      go_wp2_with fail
      have HCi := Lib.hid ((HCh.out.set_ 3 (.int .i64 (since : Int))).set_ 4 (.int .u8 (ty : Int)))
      generalize (wh.setCell ⟨cb, 3, none⟩ (.int .i64 (since : Int))).setCell ⟨cb, 4, none⟩ (.int .u8 (ty : Int)) = wi at *
      clear q3 qz3 q4 qz4 q1' HCh
      refine (read1 _ _ _ _ HCi.out.q.rd).mono ?_
      rintro e wj ⟨rfl, hsj, hgj⟩
      have HCj := Lib.hid (HCi.out.read hsj hgj)
      clear hsj hgj HCi
      simp only [List.setIfInBounds_toArray, List.set_cons_zero, List.set_cons_succ] at HCj
      obtain ⟨i0, hi0, hz0, hz1, hz2⟩ := info_parts info25
      have HVD : Hid (R.rdVal ty s5 = if nb s5 = 0 then ⟨ty, true, 0, noText, false⟩ else if ty = 1 then ⟨ty, false, int4 (rdB 4 (gtS 1 s5)), noText, false⟩ else if ty = 2 then ⟨ty, false, 0, ⟨(rdB (nb (gtS 1 s5)) (gtS 1 (gtS 1 s5))).toArray⟩, false⟩ else ⟨ty, false, 0, noText, nb (gtS 1 s5) == 1⟩) := show _ = _ by unfold R.rdVal; with_reducible rfl
      have HVS : Hid (R.rdValS ty s5 = if nb s5 = 0 then gtS 1 s5 else if ty = 1 then gtS 4 (gtS 1 s5) else if ty = 2 then gtS (nb (gtS 1 s5)) (gtS 1 (gtS 1 s5)) else gtS 1 (gtS 1 s5)) := show _ = _ by unfold R.rdValS; with_reducible rfl
      rw [HCS.out] at HSS
      rw [HCC.out] at HST
      clear HCS HCC
      by_cases h0 : nb s5 = 0
      · rw [if_pos h0] at HVD HVS
        rw [HVD.out] at HST
        rw [HVS.out] at HSS
        rw [h0]
        clear HVD HVS h0
        have q5 : wj.cell? ⟨cb, 5, none⟩ = some (.bool false) := HCj.out.blk.cell 5
        have qz5 := HCj.out.blk.frozen 5
        have b0 : wj.cell? ⟨cb, 0, none⟩ = some (.string name) := HCj.out.blk.cell 0
        have b1 : wj.cell? ⟨cb, 1, none⟩ = some (.int .u8 (ty : Int)) := HCj.out.blk.cell 1
        have b2 : wj.cell? ⟨cb, 2, none⟩ = some (.bool bq) := HCj.out.blk.cell 2
        have b3 : wj.cell? ⟨cb, 3, none⟩ = some (.int .i64 (since : Int)) := HCj.out.blk.cell 3
        have b4 : wj.cell? ⟨cb, 4, none⟩ = some (.int .u8 (ty : Int)) := HCj.out.blk.cell 4
        have b6 : wj.cell? ⟨cb, 6, none⟩ = some (.int .i64 0) := HCj.out.blk.cell 6
        have b7 : wj.cell? ⟨cb, 7, none⟩ = some (.string ⟨#[]⟩) := HCj.out.blk.cell 7
        have b8 : wj.cell? ⟨cb, 8, none⟩ = some (.bool false) := HCj.out.blk.cell 8
        have t2 : wj.cell? ⟨tb, 2, none⟩ = some v := HCj.out.q.tbl.cell 2
        have hne := HCj.out.hne
        have hne' : ¬ tb = cb := fun e => hne e.symm
        have HP5 := Lib.hid (HCj.out.set_ 5 (.bool true)).q
        clear HCj
        go_wp2_with (at_builtin; refine wpList_app _ (.tmp 88) (.tmp 90) 40 rfl rfl (tb + 1) 25 i0 _ 9 72 Tryd.underlying40 hi0 hz0 hz1 hz2 rfl ?q1 v k (colCells cols) rfl ?q0 (wj.heap.size + 1) (some ⟨wj.heap.size, 0, none⟩) 1 1 (Col.cells ⟨name, ty, bq, since, ⟨ty, true, 0, noText, false⟩⟩) rfl ?q5 (cells_one _) ?q2 ?q3 ?q4 ?_; (case q1 => omega); (case q0 => exact (HP5.out.alloc _).own); (case q5 => exact row_reads_at _ _ (by simp) _ 1 9 25 _ rfl rfl); (case q2 => (unfold maxLen; omega)); (case q3 => omega); (case q4 => exact (HP5.out.alloc _).tbl.lt); intro A3 n3 c3 w8 hn3 ho3 hg3 hb3; have HN := Lib.hid ((HP5.out.alloc _).addC hg3 ho3); have hG4 := (HP5.out.alloc _).tbl.below hb3 (Nat.lt_succ_self _); have g4 : w8.cell? ⟨tb, 2, none⟩ = some v := hG4.cell 2; have hf4 := hG4.frozen 2; have HN3 := Lib.hid hn3; clear hG4 hn3 ho3 hg3 hb3)
        rw [← HST.out, ← HSS.out] at HN
        obtain rfl := HN3.out
        go_roundw
        case rel => exact ⟨k + 1, _, by omega, by go_num, HN⟩
        case measure => simp [intOf]; omega
      · rw [if_neg h0] at HVD HVS
        have b1 : wj.cell? ⟨cb, 1, none⟩ = some (.int .u8 (ty : Int)) := HCj.out.blk.cell 1
        have e0 : (((nb s5 : Nat) : Int) == 0) = false := by rw [beq_eq_false_iff_ne]; omega
        generalize nb s5 = k5 at *
        by_cases h1 : ty = 1
        · rw [if_pos h1] at HVD HVS
          have e1 : ((ty : Int) == 1) = true := by rw [beq_iff_eq]; omega
          clear h0 h1
          rw [HVD.out] at HST
          rw [HVS.out] at HSS
          clear HVD HVS
          go_wp2_with fail
          refine (read4 _ _ _ _ HCj.out.q.rd).mono ?_
          rintro e wk ⟨rfl, hsk, hgk⟩
          have HCk := Lib.hid (HCj.out.read hsk hgk)
          have hp : pv (rdB 4 (gtS 1 s5)) 4 < 4294967296 := pv_lt _ 4
          have HPV := Lib.hid (pv_int4 (rdB 4 (gtS 1 s5)))
          generalize int4 (rdB 4 (gtS 1 s5)) = iv at *
          generalize pv (rdB 4 (gtS 1 s5)) 4 = pn at *
          have hw : wrap64 (wrap32 (pn : Int)) = iv := (wrap_sg4 pn hp).trans HPV.out
          clear hsk hgk e0 e1 b1 HPV
          have b0 : wk.cell? ⟨cb, 0, none⟩ = some (.string name) := HCk.out.blk.cell 0
          have b1 : wk.cell? ⟨cb, 1, none⟩ = some (.int .u8 (ty : Int)) := HCk.out.blk.cell 1
          have b2 : wk.cell? ⟨cb, 2, none⟩ = some (.bool bq) := HCk.out.blk.cell 2
          have b3 : wk.cell? ⟨cb, 3, none⟩ = some (.int .i64 (since : Int)) := HCk.out.blk.cell 3
          have b4 : wk.cell? ⟨cb, 4, none⟩ = some (.int .u8 (ty : Int)) := HCk.out.blk.cell 4
          have b5 : wk.cell? ⟨cb, 5, none⟩ = some (.bool false) := HCk.out.blk.cell 5
          have b6 : wk.cell? ⟨cb, 6, none⟩ = some (.int .i64 0) := HCk.out.blk.cell 6
          have b7 : wk.cell? ⟨cb, 7, none⟩ = some (.string ⟨#[]⟩) := HCk.out.blk.cell 7
          have b8 : wk.cell? ⟨cb, 8, none⟩ = some (.bool false) := HCk.out.blk.cell 8
          have bz := HCk.out.blk.frozen 6
          have t2 : wk.cell? ⟨tb, 2, none⟩ = some v := HCk.out.q.tbl.cell 2
          have hne := HCk.out.hne
          have hne' : ¬ tb = cb := fun e => hne e.symm
          have HP5 := Lib.hid (HCk.out.set_ 6 (.int .i64 iv)).q
          clear HCk HCj
          go_wp2_with (at_builtin; refine wpList_app _ (.tmp 88) (.tmp 90) 40 rfl rfl (tb + 1) 25 i0 _ 9 72 Tryd.underlying40 hi0 hz0 hz1 hz2 rfl ?q1 v k (colCells cols) rfl ?q0 (wk.heap.size + 1) (some ⟨wk.heap.size, 0, none⟩) 1 1 (Col.cells ⟨name, ty, bq, since, ⟨ty, false, iv, noText, false⟩⟩) rfl ?q5 (cells_one _) ?q2 ?q3 ?q4 ?_; (case q1 => omega); (case q0 => exact (HP5.out.alloc _).own); (case q5 => exact row_reads_at _ _ (by simp) _ 1 9 25 _ rfl rfl); (case q2 => (unfold maxLen; omega)); (case q3 => omega); (case q4 => exact (HP5.out.alloc _).tbl.lt); intro A3 n3 c3 w8 hn3 ho3 hg3 hb3; have HN := Lib.hid ((HP5.out.alloc _).addC hg3 ho3); have hG4 := (HP5.out.alloc _).tbl.below hb3 (Nat.lt_succ_self _); have g4 : w8.cell? ⟨tb, 2, none⟩ = some v := hG4.cell 2; have hf4 := hG4.frozen 2; have HN3 := Lib.hid hn3; clear hG4 hn3 ho3 hg3 hb3)
          rw [← HST.out, ← HSS.out] at HN
          obtain rfl := HN3.out
          go_roundw
          case rel => exact ⟨k + 1, _, by omega, by go_num, HN⟩
          case measure => simp [intOf]; omega
        · rw [if_neg h1] at HVD HVS
          have e1 : ((ty : Int) == 1) = false := by rw [beq_eq_false_iff_ne]; omega
          by_cases h2 : ty = 2
          · rw [if_pos h2] at HVD HVS
            have e2 : ((ty : Int) == 2) = true := by rw [beq_iff_eq]; omega
            clear h0 h1 h2
            rw [HVD.out] at HST
            rw [HVS.out] at HSS
            clear HVD HVS
            go_wp2_with fail
            refine (read1 _ _ _ _ HCj.out.q.rd).mono ?_
            rintro e wm ⟨rfl, hsm, hgm⟩
            have HCm := Lib.hid (HCj.out.read hsm hgm)
            have hk6 := nb_lt (gtS 1 s5)
            generalize nb (gtS 1 s5) = k6 at *
            have HG := Lib.hid (get_rd _ _ k6 _ _ hsm (by omega))
            clear hsm hgm e0 e1 e2 b1
            go_wp2_with fail
            refine HG.out.mono ?_
            rintro e wk ⟨Y2, cy2, rfl, hcy2, hrd, hsk, hgk⟩
            have hcv := conv_str cy2 hrd
            have HCk := Lib.hid (HCm.out.read hsk hgk)
            clear hrd hsk hgk HCm HG
            generalize rdB k6 (gtS 1 (gtS 1 s5)) = lx at *
            have b0 : wk.cell? ⟨cb, 0, none⟩ = some (.string name) := HCk.out.blk.cell 0
            have b1 : wk.cell? ⟨cb, 1, none⟩ = some (.int .u8 (ty : Int)) := HCk.out.blk.cell 1
            have b2 : wk.cell? ⟨cb, 2, none⟩ = some (.bool bq) := HCk.out.blk.cell 2
            have b3 : wk.cell? ⟨cb, 3, none⟩ = some (.int .i64 (since : Int)) := HCk.out.blk.cell 3
            have b4 : wk.cell? ⟨cb, 4, none⟩ = some (.int .u8 (ty : Int)) := HCk.out.blk.cell 4
            have b5 : wk.cell? ⟨cb, 5, none⟩ = some (.bool false) := HCk.out.blk.cell 5
            have b6 : wk.cell? ⟨cb, 6, none⟩ = some (.int .i64 0) := HCk.out.blk.cell 6
            have b7 : wk.cell? ⟨cb, 7, none⟩ = some (.string ⟨#[]⟩) := HCk.out.blk.cell 7
            have b8 : wk.cell? ⟨cb, 8, none⟩ = some (.bool false) := HCk.out.blk.cell 8
            have bz := HCk.out.blk.frozen 7
            have t2 : wk.cell? ⟨tb, 2, none⟩ = some v := HCk.out.q.tbl.cell 2
            have hne := HCk.out.hne
            have hne' : ¬ tb = cb := fun e => hne e.symm
            have HP5 := Lib.hid (HCk.out.set_ 7 (.string ⟨lx.toArray⟩)).q
            clear HCk HCj
            go_wp2_with (at_builtin; refine wpList_app _ (.tmp 88) (.tmp 90) 40 rfl rfl (tb + 1) 25 i0 _ 9 72 Tryd.underlying40 hi0 hz0 hz1 hz2 rfl ?q1 v k (colCells cols) rfl ?q0 (wk.heap.size + 1) (some ⟨wk.heap.size, 0, none⟩) 1 1 (Col.cells ⟨name, ty, bq, since, ⟨ty, false, 0, ⟨lx.toArray⟩, false⟩⟩) rfl ?q5 (cells_one _) ?q2 ?q3 ?q4 ?_; (case q1 => omega); (case q0 => exact (HP5.out.alloc _).own); (case q5 => exact row_reads_at _ _ (by simp) _ 1 9 25 _ rfl rfl); (case q2 => (unfold maxLen; omega)); (case q3 => omega); (case q4 => exact (HP5.out.alloc _).tbl.lt); intro A3 n3 c3 w8 hn3 ho3 hg3 hb3; have HN := Lib.hid ((HP5.out.alloc _).addC hg3 ho3); have hG4 := (HP5.out.alloc _).tbl.below hb3 (Nat.lt_succ_self _); have g4 : w8.cell? ⟨tb, 2, none⟩ = some v := hG4.cell 2; have hf4 := hG4.frozen 2; have HN3 := Lib.hid hn3; clear hG4 hn3 ho3 hg3 hb3)
            rw [← HST.out, ← HSS.out] at HN
            obtain rfl := HN3.out
            go_roundw
            case rel => exact ⟨k + 1, _, by omega, by go_num, HN⟩
            case measure => simp [intOf]; omega
          · rw [if_neg h2] at HVD HVS
            have e2 : ((ty : Int) == 2) = false := by rw [beq_eq_false_iff_ne]; omega
            clear h0 h1 h2
            rw [HVD.out] at HST
            rw [HVS.out] at HSS
            clear HVD HVS
            go_wp2_with fail
            refine (read1 _ _ _ _ HCj.out.q.rd).mono ?_
            rintro e wk ⟨rfl, hsk, hgk⟩
            have HCk := Lib.hid (HCj.out.read hsk hgk)
            have HBB : Hid ((((nb (gtS 1 s5) : Nat) : Int) == 1) = (nb (gtS 1 s5) == 1)) := show _ = _ by
              generalize nb (gtS 1 s5) = q
              rw [Bool.eq_iff_iff]
              simp only [beq_iff_eq]
              omega
            generalize nb (gtS 1 s5) = q6 at *
            generalize hbr : (q6 == 1) = br at *
            have hq6 : ((q6 : Int) == 1) = br := HBB.out
            clear hsk hgk hbr HBB e0 e1 e2 b1
            have b0 : wk.cell? ⟨cb, 0, none⟩ = some (.string name) := HCk.out.blk.cell 0
            have b1 : wk.cell? ⟨cb, 1, none⟩ = some (.int .u8 (ty : Int)) := HCk.out.blk.cell 1
            have b2 : wk.cell? ⟨cb, 2, none⟩ = some (.bool bq) := HCk.out.blk.cell 2
            have b3 : wk.cell? ⟨cb, 3, none⟩ = some (.int .i64 (since : Int)) := HCk.out.blk.cell 3
            have b4 : wk.cell? ⟨cb, 4, none⟩ = some (.int .u8 (ty : Int)) := HCk.out.blk.cell 4
            have b5 : wk.cell? ⟨cb, 5, none⟩ = some (.bool false) := HCk.out.blk.cell 5
            have b6 : wk.cell? ⟨cb, 6, none⟩ = some (.int .i64 0) := HCk.out.blk.cell 6
            have b7 : wk.cell? ⟨cb, 7, none⟩ = some (.string ⟨#[]⟩) := HCk.out.blk.cell 7
            have b8 : wk.cell? ⟨cb, 8, none⟩ = some (.bool false) := HCk.out.blk.cell 8
            have bz := HCk.out.blk.frozen 8
            have t2 : wk.cell? ⟨tb, 2, none⟩ = some v := HCk.out.q.tbl.cell 2
            have hne := HCk.out.hne
            have hne' : ¬ tb = cb := fun e => hne e.symm
            have HP5 := Lib.hid (HCk.out.set_ 8 (.bool br)).q
            clear HCk HCj
            go_wp2_with (at_builtin; refine wpList_app _ (.tmp 88) (.tmp 90) 40 rfl rfl (tb + 1) 25 i0 _ 9 72 Tryd.underlying40 hi0 hz0 hz1 hz2 rfl ?q1 v k (colCells cols) rfl ?q0 (wk.heap.size + 1) (some ⟨wk.heap.size, 0, none⟩) 1 1 (Col.cells ⟨name, ty, bq, since, ⟨ty, false, 0, noText, br⟩⟩) rfl ?q5 (cells_one _) ?q2 ?q3 ?q4 ?_; (case q1 => omega); (case q0 => exact (HP5.out.alloc _).own); (case q5 => exact row_reads_at _ _ (by simp) _ 1 9 25 _ rfl rfl); (case q2 => (unfold maxLen; omega)); (case q3 => omega); (case q4 => exact (HP5.out.alloc _).tbl.lt); intro A3 n3 c3 w8 hn3 ho3 hg3 hb3; have HN := Lib.hid ((HP5.out.alloc _).addC hg3 ho3); have hG4 := (HP5.out.alloc _).tbl.below hb3 (Nat.lt_succ_self _); have g4 : w8.cell? ⟨tb, 2, none⟩ = some v := hG4.cell 2; have hf4 := hG4.frozen 2; have HN3 := Lib.hid hn3; clear hG4 hn3 ho3 hg3 hb3)
            rw [← HST.out, ← HSS.out] at HN
            obtain rfl := HN3.out
            go_roundw
            case rel => exact ⟨k + 1, _, by omega, by go_num, HN⟩
            case measure => simp [intOf]; omega
    · obtain rfl : N = k := by omega
      have HPC : Hid (R.pCols l = R.colsAt S0 N) := show _ = _ by unfold R.pCols R.colsAt; rw [HS0e.out, HNe.out]
      have HS3 : Hid (R.pS3 l = R.stAt S0 N) := show _ = _ by unfold R.pS3 R.stAt; rw [HS0e.out, HNe.out]
      have HCL := Lib.hid (R.colsAt_len S0 N)
      generalize R.colsAt S0 N = cols at *
      generalize R.stAt S0 N = s3 at *
      have HN2 : Hid (R.pN2 l = nb s3) := show _ = _ by unfold R.pN2; rw [HS3.out]
      have hn2 := nb_lt s3
      go_wp2_with fail
      refine (read1 _ _ _ _ hinv.out.rd).mono ?_
      rintro e w4 ⟨rfl, hs4, hg4⟩
      have HP2 := Lib.hid (hinv.out.read hs4 hg4)
      generalize nb s3 = N2 at *
      have HPI : Hid (R.pIdxs l = R.rdIdxs cols (gtS 1 s3) N2) := show _ = _ by unfold R.pIdxs; rw [HS3.out, HPC.out, HN2.out]
      generalize gtS 1 s3 = S1 at *
      have HI0 : Hid (R.rdIdxs cols S1 0 = some ([], S1)) := show _ = _ from rfl
      clear hs4 hg4 hinv hlt hk
      go_wp2
      go_loopw [96] (fun i wr => ∃ (q : Nat) (u : Value) (x : List Idx) (s : RS), q ≤ N2 ∧ i = .int .u64 q ∧ Hid (R.rdIdxs cols S1 q = some (x, s)) ∧ Hid (QInv w wr tb nm vr v u N q cols x s)) (fun i _ => N2 - (intOf i).toNat)
      case atStart => exact ⟨0, _, _, _, Nat.zero_le _, rfl, HI0, HP2⟩
      case round =>
        clear HP2 HI0
        obtain ⟨q, u, x, s, hq, rfl, hx, hinv⟩ := hrel
        by_cases hlt : q < N2
        · have HXS := Lib.hid (fun hl => R.rdIdxs_succ hx.out hl)
          have HXO := Lib.hid (fun hl => R.rdIdxs_out hx.out hl)
          have hiN := nb_lt s
          go_wp2_with fail
          refine (read1 _ _ _ _ hinv.out.rd).mono ?_
          rintro e wa ⟨rfl, hsa, hga⟩
          have HPa := Lib.hid (hinv.out.read hsa hga)
          generalize nb s = i1 at *
          have t2 : wa.cell? ⟨tb, 2, none⟩ = some v := HPa.out.tbl.cell 2
          obtain ⟨Av, cv, hve⟩ := own_slice HPa.out.own
          obtain ⟨Au, cu, hue⟩ := own_slice HPa.out.own2
          subst hve hue
          have t3 : wa.cell? ⟨tb, 3, none⟩ = some (.slice Au q cu) := HPa.out.tbl.cell 3
          clear hsa hga hinv
          by_cases hi : i1 < N
          · have e1 : decide ((N : Int) ≤ (i1 : Int)) = false := decide_eq_false (by omega)
            have e2 : decide (N ≤ i1) = false := decide_eq_false (by omega)
            obtain ⟨hl, b1, off, hA, hbB, f0, hrest⟩ := col_facts (Reads.of_own HPa.out.own) hi
            subst hA
            clear hrest
            have HX1 := Lib.hid (HXS.out hl)
            have HNA := fun W h => Lib.hid (col_name_at (W := W) (base := tb + 1) (e := 25) (b1 := b1) (off := off) (cv := cv) (cols := cols) h hi hl)
            have HBB : Hid ((((nb (gtS 1 s) : Nat) : Int) == 1) = (nb (gtS 1 s) == 1)) := show _ = _ by
              generalize nb (gtS 1 s) = q
              rw [Bool.eq_iff_iff]
              simp only [beq_iff_eq]
              omega
            have HRD : Hid (Calls Tryd.prog 56 #[.pointer (some ⟨w.heap.size + 1, 0, none⟩), .int .i64 1] wa.drew (RetG wa.drew w.heap.size (w.heap.size + 1) (.int .u64 (nb (gtS 1 s) : Int)) (gtS 1 (gtS 1 s)))) := read1 _ _ _ _ HPa.out.drew.rd
            generalize nb (gtS 1 s) = q1 at *
            generalize hbq : (q1 == 1) = bq at *
            have hq1 : ((q1 : Int) == 1) = bq := HBB.out
            generalize cols[i1] = cc at *
            obtain ⟨i0, hi0, hz0, hz1, hz2⟩ := info_parts info78
            have hz0' : (0 : Int) ≤ (i1 : Int) := by omega
            have hz1' : (i1 : Int) < (N : Int) := by omega
            clear hbq HBB
            go_wp2
            clear e1 e2
            refine wp_region_script (fun w' => w'.cell? ⟨tb, 2, none⟩ = some (.slice (some ⟨b1, off, none⟩) N cv) ∧ w'.cell? ⟨tb, 3, none⟩ = some (.slice Au q cu) ∧ w'.cell? ⟨b1, off + i1 * 9, none⟩ = some (.string cc.name)) 13 [(true, 0), (true, 1), (true, 2), (true, 3), (true, 4), (true, 5), (true, 6), (true, 7), (true, 8), (false, 9), (true, 10), (true, 11), (false, 12)] (by kernel_rfl) (by kernel_rfl) ⟨t2, t3, f0⟩ ?_
            refine wpScript_take (.pointer (some ⟨tb, 3, none⟩)) (by rfl) (by rfl) (fun w' hS => ?_) ?_
            · obtain ⟨s2, s3, s0⟩ := hS
              go_simp
            simp only [List.getElem_toArray, List.getElem_cons_zero, Act.put, List.setIfInBounds_toArray, List.set_cons_zero, List.set_cons_succ]
            refine wpScript_take (.slice Au q cu) (by rfl) (by rfl) (fun w' hS => ?_) ?_
            · obtain ⟨s2, s3, s0⟩ := hS
              go_simp
            simp only [List.getElem_toArray, List.getElem_cons_zero, List.getElem_cons_succ, Act.put, List.setIfInBounds_toArray, List.set_cons_zero, List.set_cons_succ]
            refine wpScript_take (.pointer (some ⟨tb, 2, none⟩)) (by rfl) (by rfl) (fun w' hS => ?_) ?_
            · obtain ⟨s2, s3, s0⟩ := hS
              go_simp
            simp only [List.getElem_toArray, List.getElem_cons_zero, List.getElem_cons_succ, Act.put, List.setIfInBounds_toArray, List.set_cons_zero, List.set_cons_succ]
            refine wpScript_take (.slice (some ⟨b1, off, none⟩) N cv) (by rfl) (by rfl) (fun w' hS => ?_) ?_
            · obtain ⟨s2, s3, s0⟩ := hS
              go_simp
            simp only [List.getElem_toArray, List.getElem_cons_zero, List.getElem_cons_succ, Act.put, List.setIfInBounds_toArray, List.set_cons_zero, List.set_cons_succ]
            refine wpScript_take (.int .i64 (i1 : Int)) (by rfl) (by rfl) (fun w' hS => ?_) ?_
            · obtain ⟨s2, s3, s0⟩ := hS
              go_simp
            simp only [List.getElem_toArray, List.getElem_cons_zero, List.getElem_cons_succ, Act.put, List.setIfInBounds_toArray, List.set_cons_zero, List.set_cons_succ]
            refine wpScript_take (.pointer (some ⟨b1, off + i1 * 9, none⟩)) (by rfl) (by rfl) (fun w' hS => ?_) ?_
            · obtain ⟨s2, s3, s0⟩ := hS
              go_simp
            simp only [List.getElem_toArray, List.getElem_cons_zero, List.getElem_cons_succ, Act.put, List.setIfInBounds_toArray, List.set_cons_zero, List.set_cons_succ]
            refine wpScript_take (.pointer (some ⟨b1, off + i1 * 9, none⟩)) (by rfl) (by rfl) (fun w' hS => ?_) ?_
            · obtain ⟨s2, s3, s0⟩ := hS
              go_simp
            simp only [List.getElem_toArray, List.getElem_cons_zero, List.getElem_cons_succ, Act.put, List.setIfInBounds_toArray, List.set_cons_zero, List.set_cons_succ]
            refine wpScript_take (.string cc.name) (by rfl) (by rfl) (fun w' hS => ?_) ?_
            · obtain ⟨s2, s3, s0⟩ := hS
              go_simp
            simp only [List.getElem_toArray, List.getElem_cons_zero, List.getElem_cons_succ, Act.put, List.setIfInBounds_toArray, List.set_cons_zero, List.set_cons_succ]
            refine wpScript_take (.pointer (some ⟨w.heap.size + 1, 0, none⟩)) (by rfl) (by rfl) (fun w' hS => ?_) ?_
            · obtain ⟨s2, s3, s0⟩ := hS
              go_simp
            simp only [List.getElem_toArray, List.getElem_cons_zero, List.getElem_cons_succ, Act.put, List.setIfInBounds_toArray, List.set_cons_zero, List.set_cons_succ]
            refine wpScript_do (by rfl) ?_
            go_wp2_with fail
            refine HRD.out.mono ?_
            rintro e wb ⟨rfl, hsb, hgb⟩
            have HPb := Lib.hid (HPa.out.drew.read hsb hgb)
            have t2' : wb.cell? ⟨tb, 2, none⟩ = some (.slice (some ⟨b1, off, none⟩) N cv) := HPb.out.tbl.cell 2
            have t3' : wb.cell? ⟨tb, 3, none⟩ = some (.slice Au q cu) := HPb.out.tbl.cell 3
            have f0' : wb.cell? ⟨b1, off + i1 * 9, none⟩ = some (.string cc.name) := (HNA _ HPb.out.own).out
            clear hsb hgb HRD HPa t2 t3 f0
            go_wp2_with fail
            refine ⟨⟨t2', t3', f0'⟩, ?_⟩
            refine wpScript_take (.bool bq) (by rfl) (by rfl) (fun w' hS => ?_) ?_
            · obtain ⟨s2, s3, s0⟩ := hS
              go_simp
            simp only [List.getElem_toArray, List.getElem_cons_zero, List.getElem_cons_succ, Act.put, List.setIfInBounds_toArray, List.set_cons_zero, List.set_cons_succ]
            refine wpScript_take (.agg #[.string cc.name, .bool bq]) (by rfl) (by rfl) (fun w' hS => ?_) ?_
            · obtain ⟨s2, s3, s0⟩ := hS
              go_simp
            simp only [List.getElem_toArray, List.getElem_cons_zero, List.getElem_cons_succ, Act.put, List.setIfInBounds_toArray, List.set_cons_zero, List.set_cons_succ]
            refine wpScript_do (by rfl) ?_
            go_wp2_with fail
            clear t2' f0' t3' hq1
            refine ⟨⟨(HPb.out.alloc _).tbl.cell 2, (HPb.out.alloc _).tbl.cell 3, (HNA _ (HPb.out.alloc _).own).out⟩, ?_⟩
            show wpList _ _ _ _ _ _
            simp only [List.drop_succ_cons, List.drop_zero]
            clear HNA
            have t3 : ∀ o, (wb.alloc o).cell? ⟨tb, 3, none⟩ = some (.slice Au q cu) := fun o => (HPb.out.alloc o).tbl.cell 3
            go_wp2_with (at_builtin; refine wpList_app _ (.tmp 108) (.tmp 119) 41 rfl rfl (tb + 1) 78 i0 _ 2 24 Tryd.underlying41 hi0 hz0 hz1 hz2 rfl ?q1 (.slice Au q cu) q (idxCells x) rfl ?q0 (wb.heap.size + 1) (some ⟨wb.heap.size, 0, none⟩) 1 1 (Idx.cells ⟨cc.name, bq⟩) rfl ?q5 (icells_one _) ?q2 ?q3 ?q4 ?_; (case q1 => omega); (case q0 => exact (HPb.out.alloc _).own2); (case q5 => exact row_reads_at _ _ (by simp) _ 1 2 78 _ rfl rfl); (case q2 => (unfold maxLen; omega)); (case q3 => omega); (case q4 => exact (HPb.out.alloc _).tbl.lt); intro A3 n3 c3 w8 hn3 ho3 hg3 hb3; have HN := Lib.hid ((HPb.out.alloc _).addI hg3 ho3); have hG4 := (HPb.out.alloc _).tbl.below hb3 (Nat.lt_succ_self _); have g4 : w8.cell? ⟨tb, 3, none⟩ = some (.slice Au q cu) := hG4.cell 3; have hf4 := hG4.frozen 3; have HN3 := Lib.hid hn3; clear hG4 hn3 ho3 hg3 hb3)
            refine NoPanic.normal ?_
            go_wp2
            obtain rfl := HN3.out
            go_roundw
            case rel => exact ⟨q + 1, _, _, _, by omega, by go_num, HX1, HN⟩
            case measure => simp [intOf]; omega
          · have e1 : decide ((N : Int) ≤ (i1 : Int)) = true := decide_eq_true (by omega)
            have e2 : decide (N ≤ i1) = true := decide_eq_true (by omega)
            have HRN : Hid (res = none) := show _ = _ by
              rw [HR.out]
              refine R.parse_none ?_
              rw [HPI.out, show N2 = (q + 1) + (N2 - (q + 1)) by omega]
              exact R.rdIdxs_none (HXO.out (by rw [HCL.out]; exact hi)) _
            obtain rfl := HRN.out
            have r0 := HPa.out.res.cell 0
            have rz0 := HPa.out.res.frozen 0
            have r1 := HPa.out.res.cell 1
            have rz1 := HPa.out.res.frozen 1
            have r2 := HPa.out.res.cell 2
            have rz2 := HPa.out.res.frozen 2
            have r3 := HPa.out.res.cell 3
            have rz3 := HPa.out.res.frozen 3
            have r4 := HPa.out.res.cell 4
            have rz4 := HPa.out.res.frozen 4
            have r5 := HPa.out.res.cell 5
            have rz5 := HPa.out.res.frozen 5
            simp at r0 r1 r2 r3 r4 r5
            go_wp2
            refine bodyPost_ret (v := .tuple #[.agg #[.string ⟨#[]⟩, .int .i64 0, .slice none 0 0, .slice none 0 0, .int .u64 0, .int .u64 0], .bool false]) (by simp [results, Tryd.results31, go_sem, r0, r1, r2, r3, r4, r5]) rfl ⟨rfl, ?_⟩
            iterate 6 (refine Below.setCell ?_ (by simp) _)
            exact HPa.out.below
        · obtain rfl : N2 = q := by omega
          have HPX : Hid (R.pIdxs l = some (x, s)) := show _ = _ by rw [HPI.out, hx.out]
          have HTB : Hid (R.pTbl l x = ⟨nm, vr, cols, x, 0, 0⟩) := show _ = _ by unfold R.pTbl; rw [HNM.out, HVR.out, HPC.out]
          have HSZ := Lib.hid (R.sized_p l x)
          have HNO : Hid (¬ (valid (R.pTbl l x) = 0 ∧ s.e = false ∧ enc (R.pTbl l x) = l) → res = none) := fun h => HR.out.trans (R.parse_no HPX.out h)
          have HYES : Hid (valid (R.pTbl l x) = 0 → enc (R.pTbl l x) = l → res = some (R.pTbl l x)) := fun h1 h3 => HR.out.trans (R.parse_yes h1 h3)
          rw [HTB.out] at HSZ HNO HYES
          obtain ⟨Av, cv, hve⟩ := own_slice hinv.out.own
          obtain ⟨Au, cu, hue⟩ := own_slice hinv.out.own2
          subst hve hue
          have hcv := own_cap hinv.out.own
          have hcu := own_cap hinv.out.own2
          clear HR HPX HTB HPI HNM HVR HPC hx hlt hq HNe HS0e HS3 HN2 HCL
          obtain ⟨X0, m0, cx0, hBlk, _, _, _, _⟩ := hinv.out.rd
          have HBL := Lib.hid hBlk
          have HA : Hid (∀ W, Below wr.heap.size wr W → W.cell? ⟨w.heap.size + 1, 1, none⟩ = some (.bool s.e) ∧ (W.cell? ⟨tb, 0, none⟩ = some (.string nm) ∧ W.cell? ⟨tb, 1, none⟩ = some (.int .i64 vr) ∧ W.cell? ⟨tb, 2, none⟩ = some (.slice Av N cv) ∧ W.cell? ⟨tb, 3, none⟩ = some (.slice Au N2 cu) ∧ W.cell? ⟨tb, 4, none⟩ = some (.int .u64 0) ∧ W.cell? ⟨tb, 5, none⟩ = some (.int .u64 0)) ∧ (convert 60 9 (.slice A n c)).run Tryd.prog W = .ok (.string ⟨l.toArray⟩) W) := fun W hb =>
            ⟨(HBL.out.below hb HBL.out.lt).cell 1, ⟨(hinv.out.step hb).tbl.cell 0, (hinv.out.step hb).tbl.cell 1, (hinv.out.step hb).tbl.cell 2, (hinv.out.step hb).tbl.cell 3, (hinv.out.step hb).tbl.cell 4, (hinv.out.step hb).tbl.cell 5⟩, conv_str c (HL.out.below (hinv.out.step hb).below)⟩
          clear hBlk
          have HVC : Hid (∀ W, Below wr.heap.size wr W → Calls Tryd.prog 21 #[.agg #[.string nm, .int .i64 vr, .slice Av N cv, .slice Au N2 cu, .int .u64 0, .int .u64 0]] W fun e w' => e = .returned (.int .i64 (valid ⟨nm, vr, cols, x, 0, 0⟩)) ∧ Below W.heap.size W w') := fun W hb =>
            refValid_walk ⟨nm, vr, cols, x, 0, 0⟩ Av Au N cv N2 cu W HSZ.out (Reads.of_own (hinv.out.step hb).own) (Reads.of_own (hinv.out.step hb).own2) (by omega) (by omega)
          have HBC : Hid (valid ⟨nm, vr, cols, x, 0, 0⟩ = 0 → ∀ W, Below wr.heap.size wr W → Calls Tryd.prog 27 #[.agg #[.string nm, .int .i64 vr, .slice Av N cv, .slice Au N2 cu, .int .u64 0, .int .u64 0]] W (RetO W (enc ⟨nm, vr, cols, x, 0, 0⟩))) := fun hv W hb =>
            refBytes_good ⟨nm, vr, cols, x, 0, 0⟩ Av Au N cv N2 cu W (Reads.of_own (hinv.out.step hb).own) (Reads.of_own (hinv.out.step hb).own2) hv
          have HBD : Hid (Below wr.heap.size wr wr.drew) := (Below.refl _ _).drew
          generalize hvd : valid ⟨nm, vr, cols, x, 0, 0⟩ = vd at *
          generalize hel : enc ⟨nm, vr, cols, x, 0, 0⟩ = el at *
          clear hvd hel
          go_wp2_with fail
          cases hse : s.e with
          | true =>
            obtain rfl := HNO.out (fun h => by rw [hse] at h; cases h.2.1)
            refine wp_region_script (fun w' => Below wr.heap.size wr w') 15 [(true, 0), (true, 1), (true, 2), (true, 3), (true, 4), (true, 5), (false, 6), (true, 7), (true, 8), (true, 9), (true, 10), (true, 13), (true, 14), (false, 11), (false, 12)] (by kernel_rfl) (by kernel_rfl) HBD.out ?_
            refine wpScript_take (.pointer (some ⟨w.heap.size + 1, 0, none⟩)) (by rfl) (by rfl) (fun w' hS => ?_) ?_
            · obtain ⟨ce, ⟨t0, t1, t2, t3, t4, t5⟩, hcv⟩ := HA.out w' hS
              go_simp
            simp only [List.getElem_toArray, List.getElem_cons_zero, Act.put, List.setIfInBounds_toArray, List.set_cons_zero, List.set_cons_succ]
            refine wpScript_take (.pointer (some ⟨w.heap.size + 1, 0, none⟩)) (by rfl) (by rfl) (fun w' hS => ?_) ?_
            · obtain ⟨ce, ⟨t0, t1, t2, t3, t4, t5⟩, hcv⟩ := HA.out w' hS
              go_simp
            simp only [List.getElem_toArray, List.getElem_cons_zero, List.getElem_cons_succ, Act.put, List.setIfInBounds_toArray, List.set_cons_zero, List.set_cons_succ]
            refine wpScript_take (.pointer (some ⟨w.heap.size + 1, 1, none⟩)) (by rfl) (by rfl) (fun w' hS => ?_) ?_
            · obtain ⟨ce, ⟨t0, t1, t2, t3, t4, t5⟩, hcv⟩ := HA.out w' hS
              go_simp
            simp only [List.getElem_toArray, List.getElem_cons_zero, List.getElem_cons_succ, Act.put, List.setIfInBounds_toArray, List.set_cons_zero, List.set_cons_succ]
            refine wpScript_take (.bool true) (by rfl) (by rfl) (fun w' hS => ?_) ?_
            · obtain ⟨ce, ⟨t0, t1, t2, t3, t4, t5⟩, hcv⟩ := HA.out w' hS; rw [hse] at ce
              go_simp
            simp only [List.getElem_toArray, List.getElem_cons_zero, List.getElem_cons_succ, Act.put, List.setIfInBounds_toArray, List.set_cons_zero, List.set_cons_succ]
            refine wpScript_take (.bool true) (by rfl) (by rfl) (fun w' hS => ?_) ?_
            · obtain ⟨ce, ⟨t0, t1, t2, t3, t4, t5⟩, hcv⟩ := HA.out w' hS
              go_simp
            simp only [List.getElem_toArray, List.getElem_cons_zero, List.getElem_cons_succ, Act.put, List.setIfInBounds_toArray, List.set_cons_zero, List.set_cons_succ]
            refine wpScript_skip (by rfl) (by rfl) ?_
            simp only [List.getElem_toArray, List.getElem_cons_zero, List.getElem_cons_succ, Act.put, List.setIfInBounds_toArray, List.set_cons_zero, List.set_cons_succ]
            refine wpScript_do (by rfl) ?_
            go_wp2_with fail
            refine ⟨HBD.out, ?_⟩
            refine wpScript_skip (by rfl) (by rfl) ?_
            simp only [List.getElem_toArray, List.getElem_cons_zero, List.getElem_cons_succ, Act.put, List.setIfInBounds_toArray, List.set_cons_zero, List.set_cons_succ]
            refine wpScript_take (.bool true) (by rfl) (by rfl) (fun w' hS => ?_) ?_
            · obtain ⟨ce, ⟨t0, t1, t2, t3, t4, t5⟩, hcv⟩ := HA.out w' hS
              go_simp
            simp only [List.getElem_toArray, List.getElem_cons_zero, List.getElem_cons_succ, Act.put, List.setIfInBounds_toArray, List.set_cons_zero, List.set_cons_succ]
            refine wpScript_take (.bool true) (by rfl) (by rfl) (fun w' hS => ?_) ?_
            · obtain ⟨ce, ⟨t0, t1, t2, t3, t4, t5⟩, hcv⟩ := HA.out w' hS
              go_simp
            simp only [List.getElem_toArray, List.getElem_cons_zero, List.getElem_cons_succ, Act.put, List.setIfInBounds_toArray, List.set_cons_zero, List.set_cons_succ]
            refine wpScript_skip (by rfl) (by rfl) ?_
            simp only [List.getElem_toArray, List.getElem_cons_zero, List.getElem_cons_succ, Act.put, List.setIfInBounds_toArray, List.set_cons_zero, List.set_cons_succ]
            refine wpScript_skip (by rfl) (by rfl) ?_
            simp only [List.getElem_toArray, List.getElem_cons_zero, List.getElem_cons_succ, Act.put, List.setIfInBounds_toArray, List.set_cons_zero, List.set_cons_succ]
            refine wpScript_skip (by rfl) (by rfl) ?_
            simp only [List.getElem_toArray, List.getElem_cons_zero, List.getElem_cons_succ, Act.put, List.setIfInBounds_toArray, List.set_cons_zero, List.set_cons_succ]
            refine wpScript_do (by rfl) ?_
            go_wp2_with fail
            refine ⟨HBD.out, ?_⟩
            refine wpScript_do (by rfl) ?_
            go_wp2_with fail
            refine ⟨HBD.out, ?_⟩
            show wpList _ _ _ _ _ _
            go_wp2_with fail
            refine NoPanic.normal ?_
            have r0 := hinv.out.res.cell 0
            have rz0 := hinv.out.res.frozen 0
            have r1 := hinv.out.res.cell 1
            have rz1 := hinv.out.res.frozen 1
            have r2 := hinv.out.res.cell 2
            have rz2 := hinv.out.res.frozen 2
            have r3 := hinv.out.res.cell 3
            have rz3 := hinv.out.res.frozen 3
            have r4 := hinv.out.res.cell 4
            have rz4 := hinv.out.res.frozen 4
            have r5 := hinv.out.res.cell 5
            have rz5 := hinv.out.res.frozen 5
            simp at r0 r1 r2 r3 r4 r5
            go_wp2
            refine bodyPost_ret (v := .tuple #[.agg #[.string ⟨#[]⟩, .int .i64 0, .slice none 0 0, .slice none 0 0, .int .u64 0, .int .u64 0], .bool false]) (by simp [results, Tryd.results31, go_sem, r0, r1, r2, r3, r4, r5]) rfl ⟨rfl, ?_⟩
            refine Below.drew ?_
            iterate 6 (refine Below.setCell ?_ (by simp) _)
            exact hinv.out.below
          | false =>
            by_cases hv0 : vd = 0
            · subst hv0
              refine wp_region_script (fun w' => Below wr.heap.size wr w') 15 [(true, 0), (true, 1), (true, 2), (true, 3), (true, 4), (true, 5), (false, 6), (true, 7), (true, 8), (true, 9), (true, 10), (true, 13), (true, 14), (false, 11), (false, 12)] (by kernel_rfl) (by kernel_rfl) HBD.out ?_
              refine wpScript_take (.pointer (some ⟨w.heap.size + 1, 0, none⟩)) (by rfl) (by rfl) (fun w' hS => ?_) ?_
              · obtain ⟨ce, ⟨t0, t1, t2, t3, t4, t5⟩, hcv⟩ := HA.out w' hS
                go_simp
              simp only [List.getElem_toArray, List.getElem_cons_zero, Act.put, List.setIfInBounds_toArray, List.set_cons_zero, List.set_cons_succ]
              refine wpScript_take (.pointer (some ⟨w.heap.size + 1, 0, none⟩)) (by rfl) (by rfl) (fun w' hS => ?_) ?_
              · obtain ⟨ce, ⟨t0, t1, t2, t3, t4, t5⟩, hcv⟩ := HA.out w' hS
                go_simp
              simp only [List.getElem_toArray, List.getElem_cons_zero, List.getElem_cons_succ, Act.put, List.setIfInBounds_toArray, List.set_cons_zero, List.set_cons_succ]
              refine wpScript_take (.pointer (some ⟨w.heap.size + 1, 1, none⟩)) (by rfl) (by rfl) (fun w' hS => ?_) ?_
              · obtain ⟨ce, ⟨t0, t1, t2, t3, t4, t5⟩, hcv⟩ := HA.out w' hS
                go_simp
              simp only [List.getElem_toArray, List.getElem_cons_zero, List.getElem_cons_succ, Act.put, List.setIfInBounds_toArray, List.set_cons_zero, List.set_cons_succ]
              refine wpScript_take (.bool false) (by rfl) (by rfl) (fun w' hS => ?_) ?_
              · obtain ⟨ce, ⟨t0, t1, t2, t3, t4, t5⟩, hcv⟩ := HA.out w' hS; rw [hse] at ce
                go_simp
              simp only [List.getElem_toArray, List.getElem_cons_zero, List.getElem_cons_succ, Act.put, List.setIfInBounds_toArray, List.set_cons_zero, List.set_cons_succ]
              refine wpScript_take (.bool false) (by rfl) (by rfl) (fun w' hS => ?_) ?_
              · obtain ⟨ce, ⟨t0, t1, t2, t3, t4, t5⟩, hcv⟩ := HA.out w' hS
                go_simp
              simp only [List.getElem_toArray, List.getElem_cons_zero, List.getElem_cons_succ, Act.put, List.setIfInBounds_toArray, List.set_cons_zero, List.set_cons_succ]
              refine wpScript_take (.agg #[.string nm, .int .i64 vr, .slice Av N cv, .slice Au N2 cu, .int .u64 0, .int .u64 0]) (by rfl) (by rfl) (fun w' hS => ?_) ?_
              · obtain ⟨ce, ⟨t0, t1, t2, t3, t4, t5⟩, hcv⟩ := HA.out w' hS
                go_simp
              simp only [List.getElem_toArray, List.getElem_cons_zero, List.getElem_cons_succ, Act.put, List.setIfInBounds_toArray, List.set_cons_zero, List.set_cons_succ]
              refine wpScript_do (by rfl) ?_
              go_wp2_with fail
              refine (HVC.out _ HBD.out).mono ?_
              rintro e wv ⟨rfl, hbv⟩
              have HBV := Lib.hid (HBD.out.trans (hbv.mono HBD.out.size))
              clear hbv
              go_wp2_with fail
              refine ⟨HBV.out, ?_⟩
              refine wpScript_take (.bool false) (by rfl) (by rfl) (fun w' hS => ?_) ?_
              · obtain ⟨ce, ⟨t0, t1, t2, t3, t4, t5⟩, hcv⟩ := HA.out w' hS
                go_simp
              simp only [List.getElem_toArray, List.getElem_cons_zero, List.getElem_cons_succ, Act.put, List.setIfInBounds_toArray, List.set_cons_zero, List.set_cons_succ]
              refine wpScript_take (.bool false) (by rfl) (by rfl) (fun w' hS => ?_) ?_
              · obtain ⟨ce, ⟨t0, t1, t2, t3, t4, t5⟩, hcv⟩ := HA.out w' hS
                go_simp
              simp only [List.getElem_toArray, List.getElem_cons_zero, List.getElem_cons_succ, Act.put, List.setIfInBounds_toArray, List.set_cons_zero, List.set_cons_succ]
              refine wpScript_take (.bool false) (by rfl) (by rfl) (fun w' hS => ?_) ?_
              · obtain ⟨ce, ⟨t0, t1, t2, t3, t4, t5⟩, hcv⟩ := HA.out w' hS
                go_simp
              simp only [List.getElem_toArray, List.getElem_cons_zero, List.getElem_cons_succ, Act.put, List.setIfInBounds_toArray, List.set_cons_zero, List.set_cons_succ]
              refine wpScript_take (.agg #[.string nm, .int .i64 vr, .slice Av N cv, .slice Au N2 cu, .int .u64 0, .int .u64 0]) (by rfl) (by rfl) (fun w' hS => ?_) ?_
              · obtain ⟨ce, ⟨t0, t1, t2, t3, t4, t5⟩, hcv⟩ := HA.out w' hS
                go_simp
              simp only [List.getElem_toArray, List.getElem_cons_zero, List.getElem_cons_succ, Act.put, List.setIfInBounds_toArray, List.set_cons_zero, List.set_cons_succ]
              refine wpScript_take (.slice A n c) (by rfl) (by rfl) (fun w' hS => ?_) ?_
              · obtain ⟨ce, ⟨t0, t1, t2, t3, t4, t5⟩, hcv⟩ := HA.out w' hS
                go_simp
              simp only [List.getElem_toArray, List.getElem_cons_zero, List.getElem_cons_succ, Act.put, List.setIfInBounds_toArray, List.set_cons_zero, List.set_cons_succ]
              refine wpScript_take (.string ⟨l.toArray⟩) (by rfl) (by rfl) (fun w' hS => ?_) ?_
              · obtain ⟨ce, ⟨t0, t1, t2, t3, t4, t5⟩, hcv⟩ := HA.out w' hS
                go_simp
              simp only [List.getElem_toArray, List.getElem_cons_zero, List.getElem_cons_succ, Act.put, List.setIfInBounds_toArray, List.set_cons_zero, List.set_cons_succ]
              refine wpScript_do (by rfl) ?_
              go_wp2_with fail
              refine (HBC.out trivial _ HBV.out).mono ?_
              rintro e wB ⟨AE, nE, cE, rfl, hoE, hbE⟩
              have HBB := Lib.hid (HBV.out.trans (hbE.mono HBV.out.size))
              have hcE := conv_str cE (Reads.of_own hoE)
              clear hbE hoE
              go_wp2_with fail
              refine ⟨HBB.out, ?_⟩
              refine wpScript_do (by rfl) ?_
              go_wp2_with fail
              clear hcE
              refine ⟨HBB.out, ?_⟩
              have HPB := Lib.hid (hinv.out.step HBB.out)
              have h3 : ((⟨el.toArray⟩ : ByteArray).toList == (⟨l.toArray⟩ : ByteArray).toList) = (el == l) := by simp [ByteArray.toList_eq]
              by_cases hel : el = l
              · obtain rfl := HYES.out trivial hel
                rw [show (el == l) = true by simp [hel]] at h3
                generalize (⟨el.toArray⟩ : ByteArray) = sa at *
                generalize (⟨l.toArray⟩ : ByteArray) = sb at *
                clear hse hel HNO HYES HVC HBC
                show wpList _ _ _ _ _ _
                simp only [List.drop_succ_cons, List.drop_zero]
                go_wp2_with fail
                refine NoPanic.normal ?_
                have r0 := HPB.out.res.cell 0
                have rz0 := HPB.out.res.frozen 0
                have r1 := HPB.out.res.cell 1
                have rz1 := HPB.out.res.frozen 1
                have r2 := HPB.out.res.cell 2
                have rz2 := HPB.out.res.frozen 2
                have r3 := HPB.out.res.cell 3
                have rz3 := HPB.out.res.frozen 3
                have r4 := HPB.out.res.cell 4
                have rz4 := HPB.out.res.frozen 4
                have r5 := HPB.out.res.cell 5
                have rz5 := HPB.out.res.frozen 5
                simp at r0 r1 r2 r3 r4 r5
                have t0 : wB.cell? ⟨tb, 0, none⟩ = some (.string nm) := HPB.out.tbl.cell 0
                have t1 : wB.cell? ⟨tb, 1, none⟩ = some (.int .i64 vr) := HPB.out.tbl.cell 1
                have t2 : wB.cell? ⟨tb, 2, none⟩ = some (.slice Av N cv) := HPB.out.tbl.cell 2
                have t3 : wB.cell? ⟨tb, 3, none⟩ = some (.slice Au N2 cu) := HPB.out.tbl.cell 3
                have t4 : wB.cell? ⟨tb, 4, none⟩ = some (.int .u64 0) := HPB.out.tbl.cell 4
                have t5 : wB.cell? ⟨tb, 5, none⟩ = some (.int .u64 0) := HPB.out.tbl.cell 5
                go_wp2
                refine bodyPost_ret (v := .tuple #[.agg #[.string nm, .int .i64 vr, .slice Av N cv, .slice Au N2 cu, .int .u64 0, .int .u64 0], .bool true]) (by simp [results, Tryd.results31, go_sem, r0, r1, r2, r3, r4, r5]) rfl ⟨_, rfl, ⟨Av, N, cv, Au, N2, cu, rfl, Reads.of_own (base := tb + 1) (e := 25) (c := cv) ?_, Reads.of_own (base := tb + 1) (e := 78) (c := cu) ?_, hcv.1, hcu.1⟩, ?_⟩
                · iterate 6 (refine own_far ?_ (by have := HPB.out.lt; simp; omega) _)
                  exact HPB.out.own
                · iterate 6 (refine own_far ?_ (by have := HPB.out.lt; simp; omega) _)
                  exact HPB.out.own2
                · iterate 6 (refine Below.setCell ?_ (by simp) _)
                  exact HPB.out.below
              · obtain rfl := HNO.out (fun h => hel h.2.2)
                rw [show (el == l) = false by simp [hel]] at h3
                generalize (⟨el.toArray⟩ : ByteArray) = sa at *
                generalize (⟨l.toArray⟩ : ByteArray) = sb at *
                clear hse hel HNO HYES HVC HBC
                show wpList _ _ _ _ _ _
                simp only [List.drop_succ_cons, List.drop_zero]
                go_wp2_with fail
                refine NoPanic.normal ?_
                have r0 := HPB.out.res.cell 0
                have rz0 := HPB.out.res.frozen 0
                have r1 := HPB.out.res.cell 1
                have rz1 := HPB.out.res.frozen 1
                have r2 := HPB.out.res.cell 2
                have rz2 := HPB.out.res.frozen 2
                have r3 := HPB.out.res.cell 3
                have rz3 := HPB.out.res.frozen 3
                have r4 := HPB.out.res.cell 4
                have rz4 := HPB.out.res.frozen 4
                have r5 := HPB.out.res.cell 5
                have rz5 := HPB.out.res.frozen 5
                simp at r0 r1 r2 r3 r4 r5
                go_wp2
                refine bodyPost_ret (v := .tuple #[.agg #[.string ⟨#[]⟩, .int .i64 0, .slice none 0 0, .slice none 0 0, .int .u64 0, .int .u64 0], .bool false]) (by simp [results, Tryd.results31, go_sem, r0, r1, r2, r3, r4, r5]) rfl ⟨rfl, ?_⟩
                iterate 6 (refine Below.setCell ?_ (by simp) _)
                exact HPB.out.below
            · obtain rfl := HNO.out (fun h => hv0 h.1)
              have e1 : (vd != 0) = true := by rw [bne_iff_ne]; exact hv0
              clear hv0
              refine wp_region_script (fun w' => Below wr.heap.size wr w') 15 [(true, 0), (true, 1), (true, 2), (true, 3), (true, 4), (true, 5), (false, 6), (true, 7), (true, 8), (true, 9), (true, 10), (true, 13), (true, 14), (false, 11), (false, 12)] (by kernel_rfl) (by kernel_rfl) HBD.out ?_
              refine wpScript_take (.pointer (some ⟨w.heap.size + 1, 0, none⟩)) (by rfl) (by rfl) (fun w' hS => ?_) ?_
              · obtain ⟨ce, ⟨t0, t1, t2, t3, t4, t5⟩, hcv⟩ := HA.out w' hS
                go_simp
              simp only [List.getElem_toArray, List.getElem_cons_zero, Act.put, List.setIfInBounds_toArray, List.set_cons_zero, List.set_cons_succ]
              refine wpScript_take (.pointer (some ⟨w.heap.size + 1, 0, none⟩)) (by rfl) (by rfl) (fun w' hS => ?_) ?_
              · obtain ⟨ce, ⟨t0, t1, t2, t3, t4, t5⟩, hcv⟩ := HA.out w' hS
                go_simp
              simp only [List.getElem_toArray, List.getElem_cons_zero, List.getElem_cons_succ, Act.put, List.setIfInBounds_toArray, List.set_cons_zero, List.set_cons_succ]
              refine wpScript_take (.pointer (some ⟨w.heap.size + 1, 1, none⟩)) (by rfl) (by rfl) (fun w' hS => ?_) ?_
              · obtain ⟨ce, ⟨t0, t1, t2, t3, t4, t5⟩, hcv⟩ := HA.out w' hS
                go_simp
              simp only [List.getElem_toArray, List.getElem_cons_zero, List.getElem_cons_succ, Act.put, List.setIfInBounds_toArray, List.set_cons_zero, List.set_cons_succ]
              refine wpScript_take (.bool false) (by rfl) (by rfl) (fun w' hS => ?_) ?_
              · obtain ⟨ce, ⟨t0, t1, t2, t3, t4, t5⟩, hcv⟩ := HA.out w' hS; rw [hse] at ce
                go_simp
              simp only [List.getElem_toArray, List.getElem_cons_zero, List.getElem_cons_succ, Act.put, List.setIfInBounds_toArray, List.set_cons_zero, List.set_cons_succ]
              refine wpScript_take (.bool false) (by rfl) (by rfl) (fun w' hS => ?_) ?_
              · obtain ⟨ce, ⟨t0, t1, t2, t3, t4, t5⟩, hcv⟩ := HA.out w' hS
                go_simp
              simp only [List.getElem_toArray, List.getElem_cons_zero, List.getElem_cons_succ, Act.put, List.setIfInBounds_toArray, List.set_cons_zero, List.set_cons_succ]
              refine wpScript_take (.agg #[.string nm, .int .i64 vr, .slice Av N cv, .slice Au N2 cu, .int .u64 0, .int .u64 0]) (by rfl) (by rfl) (fun w' hS => ?_) ?_
              · obtain ⟨ce, ⟨t0, t1, t2, t3, t4, t5⟩, hcv⟩ := HA.out w' hS
                go_simp
              simp only [List.getElem_toArray, List.getElem_cons_zero, List.getElem_cons_succ, Act.put, List.setIfInBounds_toArray, List.set_cons_zero, List.set_cons_succ]
              refine wpScript_do (by rfl) ?_
              go_wp2_with fail
              refine (HVC.out _ HBD.out).mono ?_
              rintro e wv ⟨rfl, hbv⟩
              have HBV := Lib.hid (HBD.out.trans (hbv.mono HBD.out.size))
              clear hbv
              go_wp2_with fail
              refine ⟨HBV.out, ?_⟩
              refine wpScript_take (.bool true) (by rfl) (by rfl) (fun w' hS => ?_) ?_
              · obtain ⟨ce, ⟨t0, t1, t2, t3, t4, t5⟩, hcv⟩ := HA.out w' hS
                go_simp
              simp only [List.getElem_toArray, List.getElem_cons_zero, List.getElem_cons_succ, Act.put, List.setIfInBounds_toArray, List.set_cons_zero, List.set_cons_succ]
              refine wpScript_take (.bool true) (by rfl) (by rfl) (fun w' hS => ?_) ?_
              · obtain ⟨ce, ⟨t0, t1, t2, t3, t4, t5⟩, hcv⟩ := HA.out w' hS
                go_simp
              simp only [List.getElem_toArray, List.getElem_cons_zero, List.getElem_cons_succ, Act.put, List.setIfInBounds_toArray, List.set_cons_zero, List.set_cons_succ]
              refine wpScript_take (.bool true) (by rfl) (by rfl) (fun w' hS => ?_) ?_
              · obtain ⟨ce, ⟨t0, t1, t2, t3, t4, t5⟩, hcv⟩ := HA.out w' hS
                go_simp
              simp only [List.getElem_toArray, List.getElem_cons_zero, List.getElem_cons_succ, Act.put, List.setIfInBounds_toArray, List.set_cons_zero, List.set_cons_succ]
              refine wpScript_skip (by rfl) (by rfl) ?_
              simp only [List.getElem_toArray, List.getElem_cons_zero, List.getElem_cons_succ, Act.put, List.setIfInBounds_toArray, List.set_cons_zero, List.set_cons_succ]
              refine wpScript_skip (by rfl) (by rfl) ?_
              simp only [List.getElem_toArray, List.getElem_cons_zero, List.getElem_cons_succ, Act.put, List.setIfInBounds_toArray, List.set_cons_zero, List.set_cons_succ]
              refine wpScript_skip (by rfl) (by rfl) ?_
              simp only [List.getElem_toArray, List.getElem_cons_zero, List.getElem_cons_succ, Act.put, List.setIfInBounds_toArray, List.set_cons_zero, List.set_cons_succ]
              refine wpScript_do (by rfl) ?_
              go_wp2_with fail
              refine ⟨HBV.out, ?_⟩
              refine wpScript_do (by rfl) ?_
              go_wp2_with fail
              refine ⟨HBV.out, ?_⟩
              show wpList _ _ _ _ _ _
              go_wp2_with fail
              refine NoPanic.normal ?_
              have HPB := Lib.hid (hinv.out.step HBV.out)
              have r0 := HPB.out.res.cell 0
              have rz0 := HPB.out.res.frozen 0
              have r1 := HPB.out.res.cell 1
              have rz1 := HPB.out.res.frozen 1
              have r2 := HPB.out.res.cell 2
              have rz2 := HPB.out.res.frozen 2
              have r3 := HPB.out.res.cell 3
              have rz3 := HPB.out.res.frozen 3
              have r4 := HPB.out.res.cell 4
              have rz4 := HPB.out.res.frozen 4
              have r5 := HPB.out.res.cell 5
              have rz5 := HPB.out.res.frozen 5
              simp at r0 r1 r2 r3 r4 r5
              go_wp2
              refine bodyPost_ret (v := .tuple #[.agg #[.string ⟨#[]⟩, .int .i64 0, .slice none 0 0, .slice none 0 0, .int .u64 0, .int .u64 0], .bool false]) (by simp [results, Tryd.results31, go_sem, r0, r1, r2, r3, r4, r5]) rfl ⟨rfl, ?_⟩
              iterate 6 (refine Below.setCell ?_ (by simp) _)
              exact HPB.out.below
end Go.Proofs.YtophcoaikelopaaDoor
