/- The walks and laws that the claim leans on, part 51. -/
import Derived.Test.YtpihhlbfpbngaaaGreatDoorJbu
import Derived.Test.YtpihhlbfpbngaaaGreatDoorJCbfa
namespace Go.Proofs.YtpihhlbfpbngaaaGreatDoor
open Go.RowKit Go.Maps
set_option maxRecDepth 100000 in
set_option maxHeartbeats 4000000 in
theorem blobFormat_law (A : Option Addr) (n c : Nat) (l : List Nat) (w : World) (hin : InB w A n c l) (ht : Tab w) (hpy : Pay w) :
    Calls Tryz.prog 4 #[.slice A n c] w fun e w' => e = .returned (.bool true) ∧ Below w.heap.size w w' := by
  have HAw := Lib.hid (awakeB_any w ht hpy)
  have HIn := Lib.hid hin
  have HT := Lib.hid ht
  have HPy := Lib.hid hpy
  obtain ⟨k4, hk4⟩ : ∃ k4, min n 2000 = k4 := ⟨_, rfl⟩
  have hle := hin.le
  have m1 : min (n : Int) 2000 = (k4 : Int) := by omega
  have m2 : (k4 : Int) ≤ (c : Int) := by omega
  have m3 : (0 : Int) ≤ (k4 : Int) := by omega
  have m4 : (if (2000 : Int) < (n : Int) then (2000 : Int) else (n : Int)) = (k4 : Int) := by split <;> omega
  have HK := Lib.hid (show k4 ≤ 2000 ∧ k4 ≤ c ∧ min n 2000 = k4 from ⟨by omega, by omega, hk4⟩)
  have hln : l.length = n := by have := hin.r.1; simp [u8s] at this; omega
  have HLn : Hid ((l.take 2000).length = k4) := Lib.hid (by rw [List.length_take]; omega)
  have HBt : Hid (∀ z ∈ l.take 2000, z < 256) := Lib.hid (fun z hz => hin.b z (List.mem_of_mem_take hz))
  have HRt : Hid (Reads w w.heap.size 1 A k4 (u8s (l.take 2000))) := Lib.hid (by
    have h := Reads.take8 hin.r 2000
    rw [hk4, show (u8s l).take 2000 = u8s (l.take 2000) by simp [u8s]] at h
    exact h)
  obtain ⟨pl, hpl⟩ : ∃ pl, l.take 2000 = pl := ⟨_, rfl⟩
  rw [hpl] at HLn HBt HRt
  clear hin ht hpy hk4 hle hln hpl
  go_enter Tryz.func4, Tryz.ntmps4
  go_wp2_with (go_at_call 12; refine HAw.out.mono ?_; rintro e w1 ⟨rfl, hb1⟩; refine stop ?_)
  unfold Stop
  have HB1 := Lib.hid hb1
  have HBg := Lib.hid (beginB_any 3 (by omega) (by omega) w1 (HT.out.below hb1) (HPy.out.below hb1))
  rw [show ((3 : Nat) : Int) = 3 from rfl] at HBg
  clear hb1 HAw
  go_wp2_with (go_at_call 13; refine HBg.out.mono ?_; rintro e w2 ⟨a, T, x, y, S, rfl, hbw, hT, hb⟩; refine stop ?_)
  unfold Stop
  have HB2 := Lib.hid (HB1.out.trans (hb.mono HB1.out.size))
  have hold : ∀ k, sfp S x k → w.heap.size ≤ k := fun k hk => by
    obtain ⟨_, _, _, _, l5, l6, l7, l8⟩ := hbw.sd.ds.lo
    refine Nat.le_trans HB1.out.size ?_
    rcases hk with h | h
    · exact l8 k h
    · rcases h with h | h | h
      · rw [h]; exact l5
      · rw [h]; exact l6
      · rw [h]; exact l7
  have HOld := Lib.hid hold
  have HPut := Lib.hid (put_any hbw [] (Cap.new (fun _ _ => rfl)) 0 (by omega) A k4 c pl ((HRt.out.below HB2.out).more HB2.out.size) (fun h0 ad h hs => by
    have h1 := hold _ hs
    obtain ⟨ad', hA', hb', _⟩ := HRt.out.2 h0
    rw [h] at hA'
    injection hA' with hA'
    subst hA'
    omega) HBt.out HK.out.1 HK.out.2.1 HIn.out.cap (Nat.le_trans (room_one k4 HK.out.1) (by omega)) (by omega) (by omega))
  rw [show ((0 : Nat) : Int) = 0 from rfl] at HPut
  have HTT := Lib.hid hT
  clear hbw hT hb hold HBg
  go_wp2_with (go_at_call 14; refine HPut.out.mono ?_; intro e w3 h3; obtain ⟨q, A', m', c', rfl, hall⟩ := ret_putH h3; clear h3; refine stop ?_)
  unfold Stop
  obtain ⟨bl, cs2, f2, S2, cur2, hq, hm, hrd, had, hpp, hbw2, hch, hgr⟩ := hall.out
  have HB3 := Lib.hid (HB2.out.trans (hch.toBelow HB2.out.size HOld.out))
  have hmk : m' = nBlk k4 := by rw [hm, hpp.len, HLn.out]
  have hm5 : m' ≤ 5 := by rw [hmk]; exact nBlk_few k4 HK.out.1
  have HBk : Hid (∀ W, Calls Tryz.prog 17 #[.int .i64 (k4 : Int)] W fun e w' => e = .returned (.int .i64 (m' : Int)) ∧ W = w') := Lib.hid (fun W => by rw [hmk]; exact refBlocks_any k4 HK.out.1 W)
  have HMk := Lib.hid hmk
  have HBLn : Hid (bl.length = m') := Lib.hid hm.symm
  have HKd : Hid (∀ (k : Nat) (hk : k < bl.length) (W : World), Calls Tryz.prog 18 #[.int .u64 (bl[k] : Int)] W fun e w' => e = .returned (.int .u8 1) ∧ W = w') := Lib.hid (fun k hk W => by
    obtain ⟨kk, ii, hlv, _⟩ := hpp.live k hk
    have h := kind_any bl[k] W
    rw [hlv.kind_] at h
    exact h)
  have HNx : Hid (∀ (k : Nat), bl.getD k 0 < 18446744073709551616) := Lib.hid (fun k => by
    by_cases hk : k < bl.length
    · obtain ⟨kk, ii, hlv, _⟩ := hpp.live k hk
      rw [List.getD_eq_getElem?_getD, List.getElem?_eq_getElem hk]
      exact hlv.lt
    · rw [List.getD_eq_getElem?_getD, List.getElem?_eq_none (by omega)]
      exact (by decide : (0 : Nat) < 18446744073709551616))
  have HPl : Hid (∀ (k : Nat) (hk : k < bl.length) (W : World), Below w3.heap.size w3 W → Calls Tryz.prog 20 #[.pointer (some ⟨y.g, 0, none⟩), .int .u64 (bl[k] : Int)] W (RetPk W (payL (bl.getD (k + 1) 0) (pl.drop (456 * k))))) := Lib.hid (fun k hk W hW => by
    obtain ⟨kk, ii, hlv, hcl⟩ := hpp.live k hk
    have hwd := hpp.words k hk
    have hplen : ((List.range (payW (cs2 kk).cl)).map fun j => cur2 (pOff bl[k] / 8 + j)) = payL (bl.getD (k + 1) 0) (pl.drop (456 * k)) := by
      apply List.ext_getElem
      · rw [List.length_map, List.length_range, payL_len, List.length_drop, hcl]
      · intro j h1 h2
        rw [List.getElem_map, List.getElem_range, hwd j h2, List.getD_eq_getElem?_getD, List.getElem?_eq_getElem h2]
        rfl
    have h := payload_any (hbw2.below hW) hlv
    rw [hplen] at h
    exact h.mono (fun e w' h => by
      obtain ⟨A3, m3, c3, h1, h2, h3, h4, h5, h6⟩ := h
      exact ⟨A3, m3, c3, h1, h2, h3, h4, h6⟩))
  have HRp : Hid (∀ (o nx : Nat) (W : World), o ≤ k4 → nx < 18446744073709551616 → Below w3.heap.size w3 W → Calls Tryz.prog 21 #[.slice (subA A c o) (k4 - o) (c - o), .int .u64 (nx : Int)] W (RetPk W (payL nx (pl.drop o)))) := Lib.hid (fun o nx W ho hnx hW => refPayload_any (subA A c o) (k4 - o) (c - o) nx (pl.drop o) W ((reads_drop8 (HRt.out.below (HB3.out.trans (hW.mono HB3.out.size))) ho HK.out.2.1).more (HB3.out.trans (hW.mono HB3.out.size)).size) (fun b hb => HBt.out b (List.mem_of_mem_drop hb)) (by have := HK.out.1; omega) (by have := HK.out.2.1; omega) hnx)
  have HRd := Lib.hid hrd
  have hk4 := HK.out.1
  have hkc := HK.out.2.1
  have d0 : ((m' : Int) != (m' : Int)) = false := by rw [bne, beq_self_eq_true]; rfl
  clear hall hq hm hrd had hpp hbw2 hch hgr HPut HOld HB1 HB2 hmk
  go_wp2_with (go_at_call 17; refine (HBk.out _).mono ?_; rintro e w4 ⟨rfl, rfl⟩)
  go_loopw [33] (fun i wr => ∃ k : Nat, k ≤ m' ∧ i = .int .i64 (k : Int) ∧ Hid (Below w3.heap.size w3 wr)) (fun i _ => m' - (Go.RowKit.intOf i).toNat)
  case atStart => exact ⟨0, Nat.zero_le _, rfl, Lib.hid (Below.refl _ _)⟩
  case round =>
    obtain ⟨k, hk, rfl, HB⟩ := hrel
    by_cases hlt : k < m'
    · obtain ⟨hx1, gb, go, hA3, hgb, fk⟩ := u_facts (HRd.out.below HB.out) hlt
      obtain ⟨nx, hnx⟩ : ∃ nx, bl.getD (k + 1) 0 = nx := ⟨_, rfl⟩
      have HF1 : Hid ((k + 1 < m' ∧ wr.cell? ⟨gb, go + (k + 1), none⟩ = some (.int .u64 (nx : Int))) ∨ (¬ k + 1 < m' ∧ nx = 0)) := Lib.hid (by
        by_cases h1 : k + 1 < m'
        · obtain ⟨hl1, gb1, go1, hA31, _, fk1⟩ := u_facts (HRd.out.below HB.out) (k := k + 1) h1
          rw [hA3] at hA31
          injection hA31 with e1
          injection e1 with e1 e2
          subst e1 e2
          have e3 : nx = bl[k + 1] := by rw [← hnx, List.getD_eq_getElem?_getD, List.getElem?_eq_getElem hl1]; rfl
          exact .inl ⟨h1, by rw [e3]; exact fk1⟩
        · exact .inr ⟨h1, by rw [← hnx, List.getD_eq_getElem?_getD, List.getElem?_eq_none (by have := HBLn.out; omega)]; rfl⟩)
      have hnx64 : nx < 18446744073709551616 := by rw [← hnx]; exact HNx.out _
      have HKk := Lib.hid (HKd.out k hx1)
      have HPk : Hid (∀ W, Below w3.heap.size w3 W → Calls Tryz.prog 20 #[.pointer (some ⟨y.g, 0, none⟩), .int .u64 (bl[k] : Int)] W (RetPk W (payL nx (pl.drop (456 * k))))) := Lib.hid (fun W hW => by have h := HPl.out k hx1 W hW; rw [hnx] at h; exact h)
      obtain ⟨o, ho⟩ : ∃ o, 456 * k = o := ⟨_, rfl⟩
      have hok : o ≤ k4 := by rw [← ho]; exact nBlk_le k4 k (by have := HMk.out; omega)
      have ho4 : wrap64 ((k : Int) * 456) = (o : Int) := by rw [IntWalk.wrap64_in _ (by omega)]; omega
      have ho5 : (k : Int) * 456 = (o : Int) := by omega
      have ho8 : IntKind.i64.wrap (o : Int) = (o : Int) := wrapi o (by omega)
      have ho9 : (if (o : Int) < (k4 : Int) then (o : Int) else (k4 : Int)) = (o : Int) := by split <;> omega
      have ho10 : min (k4 : Int) (o : Int) = (o : Int) := by omega
      have ho12 : k4 ≤ o → (k4 : Int) = (o : Int) := fun h => by rw [show k4 = o from Nat.le_antisymm h hok]
      have HO4 := Lib.hid (And.intro ho4 (And.intro ho5 (And.intro ho8 (And.intro ho9 (And.intro ho10 ho12)))))
      have HRk := Lib.hid (fun W => HRp.out o nx W hok hnx64)
      rw [ho] at HPk
      obtain ⟨pq, hpq⟩ : ∃ pq, payL nx (pl.drop o) = pq := ⟨_, rfl⟩
      have hpq60 : pq.length ≤ 60 := by rw [← hpq, payL_len]; exact (bSize_le _).2
      rw [hpq] at HPk
      have HRk2 : Hid (∀ W, Below w3.heap.size w3 W → Calls Tryz.prog 21 #[.slice (subA A c o) (k4 - o) (c - o), .int .u64 (nx : Int)] W (RetPk W pq)) := Lib.hid (fun W hW => by have h := HRk.out W hW; rw [hpq] at h; exact h)
      generalize bl[k] = b at *
      have hz5 : (0 : Int) ≤ (k : Int) := by omega
      have hz6 : (k : Int) < (m' : Int) := by omega
      subst hA3
      clear ho hnx hpq ho4 ho5 ho8 ho9 ho10 ho12 hgb HRk
      go_upto_if 42 with fail
      go_cut [8] from 43 to 48 (fun v wx => v = .int .u64 (nx : Int) ∧ Hid (wx = wr))
      case first =>
        rcases HF1.out with ⟨h1, fk1⟩ | ⟨h1, h2⟩
        · have d1 : decide ((k : Int) + 1 < (m' : Int)) = true := decide_eq_true (by omega)
          have d2 : (k : Int) + 1 < (m' : Int) := by omega
          go_wp2_with fail
          go_meet
          exact ⟨rfl, Lib.hid rfl⟩
        · have d1 : decide ((k : Int) + 1 < (m' : Int)) = false := decide_eq_false (by omega)
          have H2 := Lib.hid h2
          clear h2
          go_wp2_with fail
          go_meet
          exact ⟨by rw [H2.out]; rfl, Lib.hid rfl⟩
      case rest =>
        obtain ⟨rfl, hwc⟩ := hcut
        have hw := hwc.out.symm
        subst hw
        clear hwc HF1 fk
        have ho6 : (o : Int) ≤ (k4 : Int) := by omega
        have ho7 : (0 : Int) ≤ (o : Int) := by omega
        have HBD := Lib.hid (HB.out.drew)
        obtain ⟨NQ, hNQ⟩ : ∃ NQ, pq.length = NQ := ⟨_, rfl⟩
        have HP5 : Hid (∀ W, Below w3.heap.size w3 W → Calls Tryz.prog 20 #[.pointer (some ⟨y.g, 0, none⟩), .int .u64 (b : Int)] W fun e w' => ∃ (A5 : Option Addr) (c5 : Nat), e = .returned (.slice A5 NQ c5) ∧ Hid (Reads w' w'.heap.size 1 A5 NQ (uCells pq) ∧ Below W.heap.size W w')) := Lib.hid (fun W hW => (HPk.out W hW).mono (fun e w' h => by
          obtain ⟨A5, m5, c5, h1, h2, h3, h4, h5⟩ := h
          rw [hNQ] at h2
          subst h2
          exact ⟨A5, c5, h1, Lib.hid ⟨h3, h5⟩⟩))
        have HP6 : Hid (∀ W, Below w3.heap.size w3 W → Calls Tryz.prog 21 #[.slice (subA A c o) (k4 - o) (c - o), .int .u64 (nx : Int)] W fun e w' => ∃ (A5 : Option Addr) (c5 : Nat), e = .returned (.slice A5 NQ c5) ∧ Hid (Reads w' w'.heap.size 1 A5 NQ (uCells pq) ∧ Below W.heap.size W w')) := Lib.hid (fun W hW => (HRk2.out W hW).mono (fun e w' h => by
          obtain ⟨A5, m5, c5, h1, h2, h3, h4, h5⟩ := h
          rw [hNQ] at h2
          subst h2
          exact ⟨A5, c5, h1, Lib.hid ⟨h3, h5⟩⟩))
        have hNQ60 : NQ ≤ 60 := by omega
        clear HPk HRk2 hpq60 hNQ
        go_upto_region 16 with fail
        refine wp_region_scriptH (fun _ => True) 17 [] [(1, 0), (0, 1), (1, 2), (1, 3), (1, 4), (1, 5), (1, 7), (1, 8), (1, 9), (1, 10), (1, 11), (1, 12), (1, 13), (1, 14), (0, 6), (0, 15), (0, 16)] (by kernel_rfl) (by kernel_rfl) trivial ?_
        refine wpScriptH_take (.int .u64 (b : Int)) (by rfl) (by rfl) (fun w' hS => ?_) ?_
        · go_simp
        simp only [zA, zB, Act.put, zD, zE, zF]
        refine wpScriptH_do (by rfl) ?_
        go_wp2_with (go_at_call 18; refine (HKk.out _).mono ?_; rintro e w4 ⟨rfl, rfl⟩)
        refine ⟨trivial, ?_⟩
        refine wpScriptH_take (.bool false) (by rfl) (by rfl) (fun w' hS => ?_) ?_
        · go_simp
        simp only [zA, zB, zC, Act.put, zD, zE, zF]
        refine wpScriptH_take (.bool false) (by rfl) (by rfl) (fun w' hS => ?_) ?_
        · go_simp
        simp only [zA, zB, zC, Act.put, zD, zE, zF]
        refine wpScriptH_take (.pointer (some ⟨y.g, 0, none⟩)) (by rfl) (by rfl) (fun w' hS => ?_) ?_
        · go_simp
        simp only [zA, zB, zC, Act.put, zD, zE, zF]
        refine wpScriptH_take (.int .u64 (b : Int)) (by rfl) (by rfl) (fun w' hS => ?_) ?_
        · go_simp
        simp only [zA, zB, zC, Act.put, zD, zE, zF]
        refine wpScriptH_take (.slice A k4 c) (by rfl) (by rfl) (fun w' hS => ?_) ?_
        · go_simp
        simp only [zA, zB, zC, Act.put, zD, zE, zF]
        refine wpScriptH_take (.slice A k4 c) (by rfl) (by rfl) (fun w' hS => ?_) ?_
        · go_simp
        simp only [zA, zB, zC, Act.put, zD, zE, zF]
        refine wpScriptH_take (.int .i64 (k4 : Int)) (by rfl) (by rfl) (fun w' hS => ?_) ?_
        · go_simp
        simp only [zA, zB, zC, Act.put, zD, zE, zF]
        refine wpScriptH_take (.int .i64 (k : Int)) (by rfl) (by rfl) (fun w' hS => ?_) ?_
        · go_simp
        simp only [zA, zB, zC, Act.put, zD, zE, zF]
        refine wpScriptH_take (.int .i64 (o : Int)) (by rfl) (by rfl) (fun w' hS => ?_) ?_
        · obtain ⟨ho4, ho5, ho8, ho9, ho10, ho12⟩ := HO4.out
          go_simp
        simp only [zA, zB, zC, Act.put, zD, zE, zF]
        refine wpScriptH_take (.int .i64 (o : Int)) (by rfl) (by rfl) (fun w' hS => ?_) ?_
        · skip
          go_simp
          exact HO4.out.2.2.2.2.2
        simp only [zA, zB, zC, Act.put, zD, zE, zF]
        refine wpScriptH_take (.slice (subA A c o) (k4 - o) (c - o)) (by rfl) (by rfl) (fun w' hS => ?_) ?_
        · obtain ⟨ho4, ho5, ho8, ho9, ho10, ho12⟩ := HO4.out; unfold subA
          go_simp
        simp only [zA, zB, zC, Act.put, zD, zE, zF]
        refine wpScriptH_take (.int .u64 (nx : Int)) (by rfl) (by rfl) (fun w' hS => ?_) ?_
        · go_simp
        simp only [zA, zB, zC, Act.put, zD, zE, zF]
        refine wpScriptH_do (by rfl) ?_
        go_wp2_with (go_at_call 20; refine (HP5.out _ HBD.out).mono ?_; rintro e w5 ⟨A5, c5, rfl, hh⟩; have HR5 := Lib.hid hh.out.1; have HB5 := Lib.hid hh.out.2; clear hh)
        refine ⟨trivial, ?_⟩
        have HBE := Lib.hid (HBD.out.trans (HB5.out.mono HBD.out.size))
        refine wpScriptH_do (by rfl) ?_
        go_wp2_with (go_at_call 21; refine (HP6.out _ HBE.out).mono ?_; rintro e w6 ⟨A6, c6, rfl, hh⟩; have HR6 := Lib.hid hh.out.1; have HB6 := Lib.hid hh.out.2; clear hh)
        refine ⟨trivial, ?_⟩
        have HBF := Lib.hid (HBE.out.trans (HB6.out.mono HBE.out.size))
        have HEq := Lib.hid (equU_same A5 A6 NQ c5 c6 pq w6 ((HR5.out.below HB6.out).more HB6.out.size) HR6.out (by omega))
        refine wpScriptH_do (by rfl) ?_
        go_wp2_with (go_at_call 19; refine HEq.out.mono ?_; rintro e w7 ⟨rfl, hb7⟩; have HBG := Lib.hid (HBF.out.trans (hb7.mono HBF.out.size)); clear hb7)
        refine ⟨trivial, ?_⟩
        show wpList _ _ _ _ _ _
        simp only [List.drop_succ_cons, List.drop_zero]
        go_wp2_with fail
        refine NoPanic.normal ?_
        go_wp2_with fail
        go_roundw
        case rel =>
          first
            | exact ⟨k + 1, by omega, by go_num, HBG⟩
            | (repeat apply Exists.intro
               refine ⟨?_, rfl⟩
               exact ⟨k + 1, by omega, by go_num, HBG⟩)
        case measure => simp [Go.RowKit.intOf]; omega
    · obtain rfl : m' = k := by omega
      go_wp2_with fail
      go_ret
      exact ⟨rfl, HB3.out.trans (HB.out.mono HB3.out.size)⟩
end Go.Proofs.YtpihhlbfpbngaaaGreatDoor
