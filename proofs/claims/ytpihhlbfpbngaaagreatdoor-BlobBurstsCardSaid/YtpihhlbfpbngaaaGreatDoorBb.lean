/- The walks and laws that the claim leans on. -/
import Derived.Test.YtpihhlbfpbngaaaGreatDoorJLcub
import Derived.WalkSpells
import Derived.WalkLawsBesides
import Derived.Deep.AppendLies
import Derived.Deep.OwnRows
import Derived.BigQuiet
import Derived.Lib.Hide
import Derived.StillTail
import Derived.Deep.RegionHeld3
import Derived.Deep.CutBlock
import Derived.Lib.ItoaNum
import Derived.Lib.AppendZeros
import Derived.Lib.BufferMore
import Derived.Lib.Zigzag
import Derived.Shelf.SlMaps.Clone
import Derived.Shelf.SlIter.Sorted
import Derived.Lib.QuoteBits
import Derived.Lib.SlKeysI
import Derived.Deep.Onto
import Derived.Laws.CopyOwn
import Derived.Lib.BytesEntry
import Derived.Lib.SlBytesConst
import Derived.Test.YtpihhlbfpbngaaaGreatDoorCards
import Derived.Test.YtpihhlbfpbngaaaGreatDoorTie
import Derived.ProofKit
import Derived.OpenShut
import Derived.Deep.DeepHandedRow
import Derived.Lib.LaidTab
namespace Go.Proofs.YtpihhlbfpbngaaaGreatDoor
open Go.RowKit Go.Maps
theorem byte_shr (x j : Nat) : IntKind.u8.wrap ((x : Int) / 2 ^ (8 * j)) = ((x / 256 ^ j % 256 : Nat) : Int) := by
  have e : (2 : Int) ^ (8 * j) = ((256 ^ j : Nat) : Int) := by
    have e8 : (2 : Int) ^ 8 = ((256 : Nat) : Int) := by decide
    rw [Int.pow_mul, e8, Int.natCast_pow]
  have e2 : (x : Int) / ((256 ^ j : Nat) : Int) = ((x / 256 ^ j : Nat) : Int) := rfl
  rw [e, e2, IntKind.wrap_u8]
  generalize x / 256 ^ j = z
  omega
theorem or_byte {l : List Nat} {b : Nat} (hl : ∀ x ∈ l, x < 256) (h7 : l.length ≤ 7) (hb : b < 256) : (lev l : Int) * 256 ≤ 18446744073709551615 ∧ bits .or .u64 ((lev l : Int) * 256) (b : Int) = ((lev (b :: l) : Nat) : Int) := by
  have h1 := lev_lt l hl
  have h2 : 256 ^ l.length ≤ 256 ^ 7 := Nat.pow_le_pow_right (by omega) h7
  have h3 : (256 : Nat) ^ 7 = 72057594037927936 := by decide
  refine ⟨by omega, ?_⟩
  show _ = ((b + 256 * lev l : Nat) : Int)
  generalize lev l = s at *
  rw [show (s : Int) * 256 = ((s * 256 : Nat) : Int) by omega]
  rw [u64_or_nat _ _ (by omega) (by omega)]
  congr 1
  have := Nat.two_pow_add_eq_or_of_lt (i := 8) (b := b) hb s
  rw [Nat.mul_comm s, show (256 : Nat) = 2 ^ 8 from rfl, ← this]
  omega
theorem wsB_take {l : List Nat} {i : Nat} (h : i < l.length) : wsB (l.take (i + 1)) = wsB (l.take i) ++ wb l[i] 8 := by
  rw [List.take_succ_eq_append_getElem h, wsB_snoc]
theorem eight_get (m : List Nat) (r s : Nat) (hs : s < 8) (h : 8 * r + s < m.length) : ((m.drop (8 * r)).take 8).drop s = m[8 * r + s] :: ((m.drop (8 * r)).take 8).drop (s + 1) := by
  have hl : s < ((m.drop (8 * r)).take 8).length := by rw [List.length_take, List.length_drop]; omega
  rw [List.drop_eq_getElem_cons hl]
  congr 1
  rw [List.getElem_take, List.getElem_drop]
theorem packW_at {m : List Nat} {r : Nat} (h : 8 * r < m.length) : (packW m).getD r 0 = lev ((m.drop (8 * r)).take 8) := by
  unfold packW
  rw [List.getD_eq_getElem?_getD, List.getElem?_map, List.getElem?_range (by omega)]
  rfl
theorem bst_meas (z : Nat) : ((z : Int) - 1 + 1).toNat < ((z : Int) + 1).toNat := by omega
theorem bst_ints {r8 z ix m1 yy bt : Nat} (h : r8 + z = ix) (h2 : ix < m1) (h3 : m1 ≤ 480) (hy : (yy : Int) * 256 ≤ 18446744073709551615) (hb : bt < 256) : ((r8 : Int) + (z : Int) = (ix : Int) ∧ wrap64 (ix : Int) = (ix : Int) ∧ IntKind.i64.wrap (ix : Int) = (ix : Int) ∧ (0 : Int) ≤ (ix : Int) ∧ (ix : Int) < (m1 : Int)) ∧
    IntKind.u64.wrap ((yy : Int) * 256) = (yy : Int) * 256 ∧ IntKind.u64.wrap (bt : Int) = (bt : Int) ∧ (0 : Int) ≤ (z : Int) ∧ wrap64 ((z : Int) - 1) = (z : Int) - 1 :=
  ⟨⟨by omega, IntWalk.wrap64_in _ (by omega), wrapi _ (by omega), by omega, by omega⟩, wraps_u64 _ (by omega) (by omega), wraps_u64 _ (by omega) (by omega), by omega, IntWalk.wrap64_in _ (by omega)⟩
set_option maxRecDepth 100000 in
set_option maxHeartbeats 16000000 in
theorem blobBursts_law (A : Option Addr) (n c : Nat) (l : List Nat) (u : Nat × Int × Nat) (w : World) (hin : InB w A n c l) (hu : BuOk u) (ht : Tab w) (hpy : Pay w) :
    Calls Tryz.prog 5 #[.slice A n c, buV u] w fun e w' => e = .returned (.bool true) ∧ Below w.heap.size w w' := by
  obtain ⟨bk, bit, pat⟩ := u
  obtain ⟨hbk, hbit1, hbit2, hpat⟩ := hu
  dsimp only at hbk hbit1 hbit2 hpat
  unfold buV
  dsimp only
  have hbx : Below w.heap.size w (w.alloc (.cells #[.int .u8 (bk : Int), .int .i64 bit, .int .u32 (pat : Int)] 52)) := (Below.refl _ _).alloc (Nat.le_refl _) _
  have HBx := Lib.hid hbx
  have HKx := Lib.hid (Blk.new w 52 #[.int .u8 (bk : Int), .int .i64 bit, .int .u32 (pat : Int)])
  have HT := Lib.hid (ht.below hbx)
  have HPy := Lib.hid (hpy.below hbx)
  have HBit := Lib.hid (And.intro hbit1 (And.intro hbit2 hpat))
  obtain ⟨k4, hk4⟩ : ∃ k4, min n 2000 = k4 := ⟨_, rfl⟩
  have hle := hin.le
  have m1 : min (n : Int) 2000 = (k4 : Int) := by omega
  have m2 : (k4 : Int) ≤ (c : Int) := by omega
  have m3 : (0 : Int) ≤ (k4 : Int) := by omega
  have m4 : (if (2000 : Int) < (n : Int) then (2000 : Int) else (n : Int)) = (k4 : Int) := by split <;> omega
  have HK := Lib.hid (show k4 ≤ 2000 ∧ k4 ≤ c ∧ min n 2000 = k4 ∧ c ≤ 9223372036854775807 from ⟨by omega, by omega, hk4, hin.cap⟩)
  have hln : l.length = n := by have := hin.r.1; simp [u8s] at this; omega
  have HLn : Hid ((l.take 2000).length = k4) := Lib.hid (by rw [List.length_take]; omega)
  have HBt : Hid (∀ z ∈ l.take 2000, z < 256) := Lib.hid (fun z hz => hin.b z (List.mem_of_mem_take hz))
  obtain ⟨w0, hw0⟩ : ∃ w0, w.alloc (.cells #[.int .u8 (bk : Int), .int .i64 bit, .int .u32 (pat : Int)] 52) = w0 := ⟨_, rfl⟩
  have HRt : Hid (Reads w0 w0.heap.size 1 A k4 (u8s (l.take 2000))) := Lib.hid (by
    have h := Reads.take8 hin.r 2000
    rw [hk4, show (u8s l).take 2000 = u8s (l.take 2000) by simp [u8s]] at h
    rw [← hw0]
    exact (h.below hbx).more hbx.size)
  obtain ⟨pl, hpl⟩ : ∃ pl, l.take 2000 = pl := ⟨_, rfl⟩
  obtain ⟨gx, hgx⟩ : ∃ gx, w.heap.size = gx := ⟨_, rfl⟩
  have HSx : Hid (gx < w0.heap.size ∧ gx = w.heap.size) := Lib.hid (by rw [← hw0, ← hgx]; simp)
  rw [hpl] at HLn HBt HRt
  rw [hw0, hgx] at HKx
  rw [hw0] at HT HPy HBx hbx
  have HAw := Lib.hid (awakeB_any w0 HT.out HPy.out)
  clear hin ht hpy hk4 hle hln hpl hbx hbit1 hbit2 hpat
  go_enter Tryz.func5, Tryz.ntmps5
  go_wp2_with fail
  try rw [hgx, hw0]
  clear hw0 hgx
  refine HAw.out.mono ?_
  rintro e w1 ⟨rfl, hb1⟩
  have HB1 := Lib.hid hb1
  have HBg := Lib.hid (beginB_any 3 (by omega) (by omega) w1 (HT.out.below hb1) (HPy.out.below hb1))
  rw [show ((3 : Nat) : Int) = 3 from rfl] at HBg
  clear hb1 HAw
  go_wp2_with (go_at_call 13; refine HBg.out.mono ?_; rintro e w2 ⟨a, T, x, y, S, rfl, hbw, hT, hb⟩; refine stop ?_)
  unfold Stop
  have HB2 := Lib.hid (HB1.out.trans (hb.mono HB1.out.size))
  have hold : ∀ k, sfp S x k → w0.heap.size ≤ k := fun k hk => by
    obtain ⟨_, _, _, _, l5, l6, l7, l8⟩ := hbw.sd.ds.lo
    refine Nat.le_trans HB1.out.size ?_
    rcases hk with h | h
    · exact l8 k h
    · rcases h with h | h | h
      · rw [h]; exact l5
      · rw [h]; exact l6
      · rw [h]; exact l7
  have HOld := Lib.hid hold
  have HPut := Lib.hid (putK_any hbw [] (Cap.new (fun _ _ => rfl)) 0 (by omega) A k4 c pl ((HRt.out.below HB2.out).more HB2.out.size) (fun h0 ad h hs => by
    have h1 := hold _ hs
    obtain ⟨ad', hA', hb', _⟩ := HRt.out.2 h0
    rw [h] at hA'
    injection hA' with hA'
    subst hA'
    omega) HBt.out HK.out.1 HK.out.2.1 HK.out.2.2.2 (Nat.le_trans (room_one k4 HK.out.1) (by omega)) (by omega) (by omega))
  rw [show ((0 : Nat) : Int) = 0 from rfl] at HPut
  have HTT := Lib.hid hT
  clear hbw hT hb hold HBg
  go_wp2_with (go_at_call 14; refine HPut.out.mono ?_; intro e w3 h3; obtain ⟨q, A', m', c', rfl, hall⟩ := ret_putK h3; clear h3; refine stop ?_)
  unfold Stop
  obtain ⟨bl, cs2, f2, S2, cur2, hq, hm, hrd, had, hpp, hbw2, hch, hgr, hmc, _⟩ := hall.out
  have HB3 := Lib.hid (HB2.out.trans (hch.toBelow HB2.out.size HOld.out))
  have hpl2 : pl.length ≤ 2000 := by rw [HLn.out]; exact HK.out.1
  have hm0 : 0 < m' := by rw [hm, hpp.len]; exact nBlk_drop pl
  have hm5 : m' ≤ 5 := by rw [hm, hpp.len]; exact nBlk_few _ hpl2
  obtain ⟨k, hk⟩ : ∃ k, bk % m' = k := ⟨_, rfl⟩
  have hkm : k < m' := by rw [← hk]; exact Nat.mod_lt _ hm0
  have hkl : k < bl.length := by omega
  have t2 : (bk : Int) % (m' : Int) = (k : Int) := by rw [← hk]; push_cast; rfl
  have t1 : (bk : Int).tmod (m' : Int) = (k : Int) := by rw [Int.tmod_eq_emod_of_nonneg (by omega)]; exact t2
  have t3 : ((m' : Int) == 0) = false := by rw [beq_eq_false_iff_ne]; omega
  have t4 : IntKind.i64.wrap (bk : Int) = (bk : Int) := wrapi bk (by omega)
  have hbk0 := hpp.bk k hkl
  obtain ⟨b, hb⟩ : ∃ b, bl[k] = b := ⟨_, rfl⟩
  obtain ⟨pk, hpk⟩ : ∃ pk, pl.drop (456 * k) = pk := ⟨_, rfl⟩
  obtain ⟨L0, hL0⟩ : ∃ L0, payL (bl.getD (k + 1) 0) pk = L0 := ⟨_, rfl⟩
  rw [hb, hpk] at hbk0
  have hpk2 : pk.length ≤ 2000 := by rw [← hpk, List.length_drop]; omega
  have hld := hbk0.load hbw2.sd.ds hpk2
  obtain ⟨NN, hN⟩ : ∃ NN, L0.length = NN := ⟨_, rfl⟩
  have hN60 : 3 ≤ NN ∧ NN ≤ 60 := by rw [← hN, ← hL0, payL_len]; exact bSize_le _
  obtain ⟨kk, ii, hlv, hcl⟩ := hbk0.live
  have hNp : NN = payW (cs2 kk).cl := by rw [← hN, ← hL0, payL_len, hcl]
  have hwl : ((List.range (payW (cs2 kk).cl)).map fun j => cur2 (pOff b / 8 + j)) = L0 := by
    apply List.ext_getElem
    · rw [List.length_map, List.length_range, ← hL0, payL_len, hcl]
    · intro j h1 h2
      have h3 := hbk0.words j (by rw [hL0]; exact h2)
      rw [List.getElem_map, List.getElem_range, h3, hL0, List.getD_eq_getElem?_getD, List.getElem?_eq_getElem h2]
      rfl
  have HLb : Hid (∀ z ∈ L0, z < 18446744073709551616) := Lib.hid (by
    rw [← hL0]
    exact payL_lt (hpp.nx _) (fun q hq => HBt.out q (by rw [← hpk] at hq; exact List.mem_of_mem_drop hq)) hpk2)
  have HPay : Hid (Calls Tryz.prog 20 #[.pointer (some ⟨y.g, 0, none⟩), .int .u64 (b : Int)] w3 fun e w' => ∃ (A4 : Option Addr) (c4 : Nat), e = .returned (.slice A4 NN c4) ∧ Hid (Reads w' w'.heap.size 1 A4 NN (uCells L0) ∧ Below w3.heap.size w3 w')) := Lib.hid (by
    have h := payload_own hbw2 hlv
    rw [hwl] at h
    refine h.mono (fun e w' h => ?_)
    obtain ⟨A4, m4, c4, h1, h2, h3, h4⟩ := h
    rw [hN] at h2
    subst h2
    exact ⟨A4, c4, h1, Lib.hid ⟨Reads.of_own h3, h4⟩⟩)
  have HAt : Hid (∀ r W, r < NN → Calls Tryz.prog 24 #[.int .u64 (b : Int), .int .i64 (r : Int)] W fun e w' => e = .returned (.int .u64 ((pOff b + 8 * r : Nat) : Int)) ∧ W = w') := Lib.hid (fun r W hr => by
    have h1 := at_any b r (by omega) W
    have h2 : pAt b r = pOff b + 8 * r := by unfold pAt; rw [if_neg (by have := hld.2.2.1; omega)]
    rw [h2] at h1
    exact h1)
  obtain ⟨hx1, gb, go, hA3, hgb, fk⟩ := u_facts hrd (k := k) hkm
  rw [hb] at fk
  have hbox : w3.cell? ⟨gx, 0, none⟩ = some (.int .u8 (bk : Int)) := (HB3.out.cell (p := ⟨gx, 0, none⟩) HSx.out.1).trans (HKx.out.cell 0)
  have HAtt := Lib.hid hlv.at_
  have HPp := Lib.hid hpp
  have HBw := Lib.hid hbw2
  have HQ := Lib.hid hq
  have HX := Lib.hid (show bl[k] = b ∧ payL (bl.getD (k + 1) 0) (pl.drop (456 * k)) = L0 ∧ L0.length = NN ∧ NN = payW (cs2 kk).cl ∧ pl.length ≤ 2000 ∧ k < bl.length from ⟨hb, by rw [hpk]; exact hL0, hN, hNp, hpl2, hkl⟩)
  have HS2 : Hid (∀ z, sfp S2 x z → w0.heap.size ≤ z ∧ z < w3.heap.size) := Lib.hid (fun z hz => by
    obtain ⟨k1, k2, k3, k4, k5⟩ := hbw2.sd.ds.hs.lt
    rcases hz with hz | hz
    · refine ⟨?_, hbw2.sd.ds.dev.lt z hz⟩
      rcases hgr z hz with h1 | h1
      · exact HOld.out z (.inl h1)
      · exact Nat.le_trans HB2.out.size h1
    · refine ⟨HOld.out z (.inr hz), ?_⟩
      rcases hz with h | h | h
      · rw [h]; exact k3
      · rw [h]; exact k4
      · rw [h]; exact k5)
  have HYg : Hid (y.g < w3.heap.size) := Lib.hid hbw2.blk.lt
  have hz5 : (0 : Int) ≤ (k : Int) := by omega
  have hz6 : (k : Int) < (m' : Int) := by omega
  subst hA3
  clear hall hq hm hrd had hpp hbw2 hch hgr hmc HPut HB1 HB2 hk hbk0 hb hpk hpk2 hld hL0 hN hlv hcl hwl hgb hNp hpl2
  go_wp2_with (go_at_call 20; refine HPay.out.mono ?_; rintro e w4 ⟨A4, c4, rfl, hh⟩; refine stop ?_)
  unfold Stop
  have HR4 := Lib.hid hh.out.1
  have HB04 : Hid (Below w0.heap.size w0 w4) := Lib.hid (HB3.out.trans (hh.out.2.mono HB3.out.size))
  have HB34 := Lib.hid hh.out.2
  obtain ⟨u0, hu0, hv0, hv1, hv2⟩ := info_parts infoU8b
  have HO0 : Hid (w4.ownsRow w4.heap.size 5 1 (.slice none 0 0) 0 (u8s (wsB (L0.take 0)))) := Lib.hid (World.ownsRow_nil _ _ _ _)
  have HB40 : Hid (Below w4.heap.size w4 w4) := Lib.hid (Below.refl _ _)
  have HLl := Lib.hid HX.out.2.2.1
  clear hh HPay t1 t2 t3 t4 fk hz5 hz6 hbox
  go_wp2_with fail
  go_loopw [9, 51] (fun v i wr => ∃ (i1 : Nat) (A1 : Option Addr) (m1 c1 : Nat), i1 ≤ NN ∧ i = .int .i64 (i1 : Int) ∧ v = .slice A1 m1 c1 ∧ Hid (m1 = 8 * i1) ∧ Hid (wr.ownsRow w4.heap.size 5 1 (.slice A1 m1 c1) m1 (u8s (wsB (L0.take i1)))) ∧ Hid (Below w4.heap.size w4 wr)) (fun _ i _ => NN - (Go.RowKit.intOf i).toNat)
  case atStart => exact ⟨0, none, 0, 0, Nat.zero_le _, rfl, rfl, Lib.hid rfl, HO0, HB40⟩
  case round =>
    clear HO0 HB40
    obtain ⟨i1, A1, m1, c1, hi1, rfl, rfl, HM, HO, HB⟩ := hrel
    by_cases hlt : i1 < NN
    · have hz7 : (0 : Int) ≤ (i1 : Int) := by omega
      have hz8 : (i1 : Int) < (NN : Int) := by omega
      obtain ⟨hlx, g4, o4, hA4, hg4, f4⟩ := u_facts (HR4.out.below HB.out) (k := i1) hlt
      subst hA4
      have HEQ : Hid (wsB (L0.take i1) ++ wb L0[i1] 8 = wsB (L0.take (i1 + 1))) := Lib.hid (wsB_take hlx).symm
      obtain ⟨xx, hxx⟩ : ∃ xx, L0[i1] = xx := ⟨_, rfl⟩
      obtain ⟨WS, hWS⟩ : ∃ WS, wsB (L0.take i1) = WS := ⟨_, rfl⟩
      rw [hxx] at f4 HEQ
      rw [hWS] at HEQ HO
      have HO1 : Hid (wr.ownsRow w4.heap.size 5 1 (.slice A1 m1 c1) m1 (u8s (WS ++ wb xx 0))) := Lib.hid (by
        have e : WS ++ wb xx 0 = WS := by simp [wb]
        rw [e]
        exact HO.out)
      clear hxx hWS hlx
      go_wp2_with fail
      go_loopw [9, 55] (fun v i wr2 => ∃ (s : Nat) (A2 : Option Addr) (m2 c2 : Nat), s ≤ 8 ∧ i = .int .i64 (s : Int) ∧ v = .slice A2 m2 c2 ∧ Hid (m2 = 8 * i1 + s) ∧ Hid (wr2.ownsRow w4.heap.size 5 1 (.slice A2 m2 c2) m2 (u8s (WS ++ wb xx s))) ∧ Hid (Below w4.heap.size w4 wr2)) (fun _ i _ => 8 - (Go.RowKit.intOf i).toNat)
      case atStart => exact ⟨0, A1, m1, c1, by omega, rfl, rfl, Lib.hid HM.out, HO1, HB⟩
      case round =>
        obtain ⟨s, A2, m2, c2, hs, rfl, rfl, HM2, HO2, HB2⟩ := hrel
        by_cases hs8 : s < 8
        · have hm2 : m2 ≤ 600 := by have := HM2.out; omega
          have d1 : (s : Int) < 8 := by omega
          have d2 : (0 : Int) ≤ (s : Int) := by omega
          obtain ⟨bt, hbt⟩ : ∃ bt, xx / 256 ^ s % 256 = bt := ⟨_, rfl⟩
          have hsh := byte_shr xx s
          rw [hbt] at hsh
          have HEs : Hid (u8s (WS ++ wb xx s) ++ [.int .u8 (bt : Int)] = u8s (WS ++ wb xx (s + 1))) := Lib.hid (by rw [wb_succ, hbt]; simp [u8s])
          have HOD := Lib.hid (HO2.out.alloc (.cells #[.int .u8 (bt : Int)] 5))
          have HBD := Lib.hid (HB2.out.alloc HB2.out.size (.cells #[.int .u8 (bt : Int)] 5))
          have HLE2 : Hid (w4.heap.size ≤ (wr.alloc (.cells #[.int .u8 (bt : Int)] 5)).heap.size) := Lib.hid HBD.out.size
          clear hbt
          go_wp2_with (at_builtin; refine wpList_app _ (.tmp 58) (.tmp 64) 22 rfl rfl w4.heap.size 5 u0 _ 1 1 Tryz.underlying22 hu0 hv0 hv1 hv2 rfl ?q1 (.slice A2 m2 c2) m2 (u8s (WS ++ wb xx s)) rfl HOD.out (wr.heap.size + 1) (some ⟨wr.heap.size, 0, none⟩) 1 1 [.int .u8 (bt : Int)] rfl ?q5 ?q6 ?q2 ?q3 ?q4 ?_; (case q1 => omega); (case q5 => exact row_reads_at _ _ rfl _ 1 1 5 _ rfl rfl); (case q6 => (intro u hu; simp at hu; subst hu; rfl)); (case q2 => (unfold maxLen; omega)); (case q3 => omega); (case q4 => exact HLE2.out); intro A3 n3 c3 w8 hn3 ho3 hg3 hb3; have HN3 := Lib.hid hn3; have HO3 := Lib.hid ho3; have HB3' := Lib.hid (HBD.out.trans hb3); clear hn3 ho3 hg3 hb3; refine stop ?_)
          unfold Stop
          have b1 : Hid (n3 = 8 * i1 + (s + 1)) := Lib.hid (by have := HN3.out; have := HM2.out; omega)
          have HO4 : Hid (w8.ownsRow w4.heap.size 5 1 (.slice A3 n3 c3) n3 (u8s (WS ++ wb xx (s + 1)))) := Lib.hid (by have h := HO3.out; rw [HEs.out] at h; exact h)
          clear HN3 HO3 HO2 HB2 HM2 HOD HBD HLE2 HEs hsh
          go_wp2_with fail
          go_roundw
          case rel =>
            first
              | exact ⟨s + 1, A3, n3, c3, by omega, by go_num, rfl, b1, HO4, HB3'⟩
              | (repeat apply Exists.intro
                 refine ⟨?_, rfl⟩
                 exact ⟨s + 1, A3, n3, c3, by omega, by go_num, rfl, b1, HO4, HB3'⟩)
          case measure => simp [Go.RowKit.intOf]; omega
        · have hse : s = 8 := by omega
          have d1 : decide ((s : Int) < 8) = false := decide_eq_false (by omega)
          have d3 : ¬ (s : Int) < 8 := by omega
          have HO3 : Hid (wr.ownsRow w4.heap.size 5 1 (.slice A2 m2 c2) m2 (u8s (wsB (L0.take (i1 + 1))))) := Lib.hid (by have h := HO2.out; rw [hse, HEQ.out] at h; exact h)
          have HM3 : Hid (m2 = 8 * (i1 + 1)) := Lib.hid (by have := HM2.out; omega)
          clear HO2 HM2 HO1 HM HO hse hs8 hs
          go_wp2_with fail
          go_roundw
          case rel =>
            first
              | exact ⟨i1 + 1, A2, m2, c2, by omega, by go_num, rfl, HM3, HO3, HB2⟩
              | (repeat apply Exists.intro
                 refine ⟨?_, rfl⟩
                 exact ⟨i1 + 1, A2, m2, c2, by omega, by go_num, rfl, HM3, HO3, HB2⟩)
          case measure => simp [Go.RowKit.intOf]; omega
    · obtain rfl : NN = i1 := by omega
      have HO5 : Hid (wr.ownsRow w4.heap.size 5 1 (.slice A1 m1 c1) m1 (u8s (wsB L0))) := Lib.hid (by
        have h := HO.out
        rw [List.take_of_length_le (by rw [HLl.out]; exact Nat.le_refl _)] at h
        exact h)
      have hm1 := HM.out
      clear HM HO hlt hi1
      have hMM : 24 ≤ m1 ∧ m1 ≤ 480 := by omega
      have HMM := Lib.hid hm1
      obtain ⟨bt1, bt2, bt3⟩ := HBit.out
      have HBu := Lib.hid (burst_any A1 m1 c1 (wsB L0) bit pat wr ⟨fun z hz => wsB_lt z hz, Reads.of_own HO5.out, (own_cap HO5.out).1, (own_cap HO5.out).2⟩ (by omega) bt1 bt2 bt3)
      have HB05 : Hid (Below w0.heap.size w0 wr) := Lib.hid (HB04.out.trans (HB.out.mono HB04.out.size))
      have HK5 := Lib.hid (HKx.out.below HB05.out HSx.out.1)
      have fb1 : wr.cell? ⟨gx, 1, none⟩ = some (.int .i64 bit) := HK5.out.cell 1
      have fb2 : wr.cell? ⟨gx, 2, none⟩ = some (.int .u32 (pat : Int)) := HK5.out.cell 2
      clear hm1 HK5
      go_wp2_with (go_at_call 22; refine HBu.out.mono ?_; rintro e w6 ⟨rfl, hk6, hb6⟩; refine stop ?_)
      unfold Stop
      have HGz : Hid (w4.heap.size ≤ wr.heap.size) := Lib.hid HB.out.size
      have HB36 : Hid (Below w3.heap.size w3 w6) := Lib.hid (HB34.out.trans ((HB.out.trans (hb6.mono HB.out.size)).mono HB34.out.size))
      have HB56 := Lib.hid hb6
      have HB06 : Hid (Below w0.heap.size w0 w6) := Lib.hid (HB05.out.trans (hb6.mono HB05.out.size))
      have HWas : Hid (Reads w6 wr.heap.size 1 A1 m1 (u8s (wsB L0)) ∧ ∀ ad, A1 = some ad → w4.heap.size ≤ ad.block) := Lib.hid ⟨(Reads.of_own HO5.out).below hb6, fun ad h => (HO5.out.lt ad.block (by rw [h]; rfl)).1⟩
      obtain ⟨gz, hgz⟩ : ∃ gz, wr.heap.size = gz := ⟨_, rfl⟩
      rw [hgz] at hk6 HGz HWas ⊢
      have HGz6 : Hid (gz < w6.heap.size) := Lib.hid hk6.lt
      obtain ⟨m8, hm8⟩ : ∃ m8, Crc.burst (wsB L0) bit pat 32 = m8 := ⟨_, rfl⟩
      rw [hm8] at hk6
      have hl8 : m8.length = m1 := by rw [← hm8, Crc.burst_len, wsB_len, HLl.out]; exact HMM.out.symm
      have hb8 : ∀ z ∈ m8, z < 256 := by rw [← hm8]; exact fun z hz => Crc.burst_bytes (fun b hb => wsB_lt b hb) bit pat 32 z hz
      obtain ⟨NW, hNW⟩ : ∃ NW, packW m8 = NW := ⟨_, rfl⟩
      have hNl : NW.length = NN := by rw [← hNW, packW_len, hl8]; have := HMM.out; omega
      have hNb : ∀ z ∈ NW, z < 18446744073709551616 := by rw [← hNW]; exact packW_lt hb8
      have hwN : wsB NW = m8 := by rw [← hNW]; exact wsB_packW NN m8 (by rw [hl8]; exact HMM.out) hb8
      have hNr : ∀ r, r < NN → NW.getD r 0 = lev ((m8.drop (8 * r)).take 8) := fun r hr => by
        rw [← hNW]
        exact packW_at (by have := HMM.out; omega)
      have HN8 := Lib.hid (show Crc.burst (wsB L0) bit pat 32 = m8 ∧ m8.length = m1 ∧ (∀ z ∈ m8, z < 256) ∧ NW.length = NN ∧ (∀ z ∈ NW, z < 18446744073709551616) ∧ wsB NW = m8 from ⟨hm8, hl8, hb8, hNl, hNb, hwN⟩)
      have HNr := Lib.hid hNr
      have HK6 := Lib.hid hk6
      have HSt0 : Hid (StB a (53 + 32 * 3) (T + 4000) 3 x y cs2 f2 (0 + 20) 0 w1.heap.size S2 cur2 w6 b NW 0 w6) := Lib.hid (StB.first (HBw.out.below HB36.out))
      clear hk6 hb6 hm8 hl8 hb8 hNW hNl hNb hwN hNr hgz HBu fb1 fb2 bt1 bt2 bt3 HO5 HB
      go_wp2_with fail
      go_loopw [14] (fun i w7 => ∃ r : Nat, r ≤ NN ∧ i = .int .i64 ((8 * r : Nat) : Int) ∧ Hid (StB a (53 + 32 * 3) (T + 4000) 3 x y cs2 f2 (0 + 20) 0 w1.heap.size S2 cur2 w6 b NW r w7)) (fun i _ => m1 - (Go.RowKit.intOf i).toNat)
      case atStart => exact ⟨0, Nat.zero_le _, rfl, HSt0⟩
      case round =>
        clear HSt0
        obtain ⟨w7, hw7⟩ : ∃ w7, w7 = wr := ⟨_, rfl⟩
        subst hw7
        obtain ⟨r, hr, rfl, HSt⟩ := hrel
        by_cases hrl : r < NN
        · have HK7 : Hid (Blk w7 gz 5 (u8s m8).toArray) := Lib.hid (by
            obtain ⟨S', cur', h1, h2, h3, h4⟩ := HSt.out
            exact h2.blk HK6.out (fun hz => by have h5 := (HS2.out gz (.inl hz)).2; have h6 := HGz.out; have h7 := HB34.out.size; omega))
          obtain ⟨r8, hr8⟩ : ∃ r8, 8 * r = r8 := ⟨_, rfl⟩
          have hr9 : r8 + 8 ≤ m1 := by have := HMM.out; omega
          have e7 : (r8 : Int) < (m1 : Int) := by omega
          have e8 : (0 : Int) ≤ (r8 : Int) := by omega
          obtain ⟨row, hrow⟩ : ∃ row, (m8.drop (8 * r)).take 8 = row := ⟨_, rfl⟩
          have HRow : Hid (row.length = 8 ∧ (∀ z ∈ row, z < 256) ∧ lev row = NW.getD r 0 ∧ ∀ s, s < 8 → ∃ h : r8 + s < m8.length, row.drop s = m8[r8 + s] :: row.drop (s + 1)) := Lib.hid (by
            subst hr8
            refine ⟨by rw [← hrow, List.length_take, List.length_drop, HN8.out.2.1]; omega, fun z hz => ?_, ?_, fun s hs => ?_⟩
            · rw [← hrow] at hz
              exact HN8.out.2.2.1 z (List.mem_of_mem_drop (List.mem_of_mem_take hz))
            · rw [HNr.out r hrl, hrow]
            · have h := eight_get m8 r s hs (by rw [HN8.out.2.1]; omega)
              rw [hrow] at h
              exact ⟨by rw [HN8.out.2.1]; omega, h⟩)
          rw [hr8]
          have HR8 := Lib.hid hr8
          have hd8 : Hid (lev (row.drop 8) = 0) := Lib.hid (by rw [List.drop_eq_nil_of_le (by rw [HRow.out.1]; exact Nat.le_refl _)]; rfl)
          clear hrow
          go_wp2_with fail
          go_loopw [15, 16] (fun v k w8 => ∃ s : Nat, s ≤ 8 ∧ k = .int .i64 ((s : Int) - 1) ∧ v = .int .u64 ((lev (row.drop s) : Nat) : Int) ∧ w7 = w8) (fun _ k _ => (Go.RowKit.intOf k + 1).toNat)
          case atStart => exact ⟨8, Nat.le_refl _, by go_num, by rw [hd8.out]; rfl, rfl⟩
          case round =>
            obtain ⟨s, hs, rfl, rfl, rfl⟩ := hrel
            by_cases hs0 : 0 < s
            · obtain ⟨z, rfl⟩ : ∃ z, s = z + 1 := ⟨s - 1, by omega⟩
              rw [show (((z + 1 : Nat) : Int) - 1) = (z : Int) by omega]
              obtain ⟨hx8, hxe⟩ := HRow.out.2.2.2 z (by omega)
              obtain ⟨ix, hix⟩ : ∃ ix, r8 + z = ix := ⟨_, rfl⟩
              have fz : w7.cell? ⟨gz, ix, none⟩ = some (.int .u8 ((m8[r8 + z] : Nat) : Int)) := by
                rw [HK7.out.cell, ← hix]
                simp [u8s, hx8]
              have hor := or_byte (l := row.drop (z + 1)) (b := m8[r8 + z]) (fun q hq => HRow.out.2.1 q (List.mem_of_mem_drop hq)) (by rw [List.length_drop, HRow.out.1]; omega) (HN8.out.2.2.1 _ (List.getElem_mem hx8))
              rw [← hxe] at hor
              have hb8 := HN8.out.2.2.1 _ (List.getElem_mem hx8)
              generalize m8[r8 + z] = bt at *
              generalize lev (row.drop (z + 1)) = yy at *
              obtain ⟨vv, hvv⟩ : ∃ vv, lev (row.drop z) = vv := ⟨_, rfl⟩
              rw [hvv] at hor
              have HVV := Lib.hid hvv
              have hixm : ix < m1 := by omega
              have hz8 : z ≤ 8 := Nat.le_of_succ_le hs
              obtain ⟨⟨q1, q2, q3, q4, q5⟩, q6, q7, q8, q9⟩ := bst_ints hix hixm hMM.2 hor.1 hb8
              have hor2 := hor.2
              clear hor hxe hvv hix hb8 hx8
              go_wp2_with fail
              go_roundw
              case rel =>
                refine ⟨z, hz8, ?_, ?_, ?_⟩
                · rw [q9]
                · rw [HVV.out]
                · first | rfl | trivial
              case measure => first | (simp only [q9]; exact bst_meas z) | exact bst_meas z | (simp [Go.RowKit.intOf, q9]; done)
            · obtain rfl : s = 0 := by omega
              rw [List.drop_zero, HRow.out.2.2.1]
              have g1 : w7.cell? ⟨y.g, 1, none⟩ = some (.pointer (some ⟨a.th 0, 0, none⟩)) := by
                obtain ⟨S', cur', h1, _⟩ := HSt.out
                exact h1.blk.cell 1
              have hrp : r < payW (cs2 kk).cl := by rw [← HX.out.2.2.2.1]; exact hrl
              have hv64 : NW.getD r 0 < 18446744073709551616 := by
                have h : r < NW.length := by rw [HN8.out.2.2.2.1]; exact hrl
                rw [List.getD_eq_getElem?_getD, List.getElem?_eq_getElem h]
                exact HN8.out.2.2.2.2.1 _ (List.getElem_mem h)
              have HSto := Lib.hid ((HSt.out.below (Below.refl _ w7).drew).step HAtt.out hrp hv64 (by have := HTT.out; omega))
              have HAt1 := Lib.hid (fun W => HAt.out r W hrl)
              obtain ⟨nv, hnv⟩ : ∃ nv, NW.getD r 0 = nv := ⟨_, rfl⟩
              obtain ⟨zz, hzz⟩ : ∃ zz, pOff b + 8 * r = zz := ⟨_, rfl⟩
              rw [hnv] at HSto ⊢
              rw [hzz] at HSto HAt1
              have HQq : Hid ((r8 : Int).tdiv 8 = (r : Int) ∧ (r8 : Int) / 8 = (r : Int) ∧ wrap64 (r : Int) = (r : Int) ∧ IntKind.i64.wrap (r : Int) = (r : Int)) := Lib.hid (by
                have := HR8.out
                refine ⟨?_, by omega, IntWalk.wrap64_in _ (by omega), wrapi _ (by omega)⟩
                rw [Int.tdiv_eq_ediv_of_nonneg (by omega)]
                omega)
              have e9 : Hid ((r8 : Int) + 8 = ((8 * (r + 1) : Nat) : Int)) := Lib.hid (by have := HR8.out; omega)
              clear hv64 hnv hzz hs0 hs
              go_upto_region 30 with fail
              refine wp_region_scriptH (fun w' => w'.cell? ⟨y.g, 1, none⟩ = some (.pointer (some ⟨a.th 0, 0, none⟩))) 10 [] [(1, 0), (1, 1), (1, 2), (1, 3), (1, 4), (1, 5), (1, 6), (1, 8), (0, 7), (0, 9)] (by kernel_rfl) (by kernel_rfl) g1 ?_
              refine wpScriptH_take (.pointer (some ⟨y.g, 0, none⟩)) (by rfl) (by rfl) (fun w' hS => ?_) ?_
              · go_simp
              simp only [zA, zB, Act.put, zD, zE, zF]
              refine wpScriptH_take (.pointer (some ⟨y.g, 0, none⟩)) (by rfl) (by rfl) (fun w' hS => ?_) ?_
              · go_simp
              simp only [zA, zB, zC, Act.put, zD, zE, zF]
              refine wpScriptH_take (.pointer (some ⟨y.g, 1, none⟩)) (by rfl) (by rfl) (fun w' hS => ?_) ?_
              · go_simp
              simp only [zA, zB, zC, Act.put, zD, zE, zF]
              refine wpScriptH_take (.pointer (some ⟨a.th 0, 0, none⟩)) (by rfl) (by rfl) (fun w' hS => ?_) ?_
              · go_simp
              simp only [zA, zB, zC, Act.put, zD, zE, zF]
              refine wpScriptH_take (.int .u64 (b : Int)) (by rfl) (by rfl) (fun w' hS => ?_) ?_
              · go_simp
              simp only [zA, zB, zC, Act.put, zD, zE, zF]
              refine wpScriptH_take (.int .i64 (r8 : Int)) (by rfl) (by rfl) (fun w' hS => ?_) ?_
              · go_simp
              simp only [zA, zB, zC, Act.put, zD, zE, zF]
              refine wpScriptH_take (.int .i64 (r : Int)) (by rfl) (by rfl) (fun w' hS => ?_) ?_
              · obtain ⟨t1, t2, t3, t4⟩ := HQq.out
                go_simp
              simp only [zA, zB, zC, Act.put, zD, zE, zF]
              refine wpScriptH_take (.int .u64 (nv : Int)) (by rfl) (by rfl) (fun w' hS => ?_) ?_
              · go_simp
              simp only [zA, zB, zC, Act.put, zD, zE, zF]
              refine wpScriptH_do (by rfl) ?_
              go_wp2_with (go_at_call 24; refine (HAt1.out _).mono ?_; rintro e w8 ⟨rfl, rfl⟩)
              refine ⟨g1, ?_⟩
              refine wpScriptH_do (by rfl) ?_
              go_wp2_with (go_at_call 23; refine HSto.out.mono ?_; rintro e w8 ⟨rfl, hst⟩; have HSt8 := Lib.hid hst; clear hst)
              refine ⟨by (obtain ⟨S', cur', h1, _⟩ := HSt8.out; exact h1.blk.cell 1), ?_⟩
              show wpList _ _ _ _ _ _
              simp only [List.drop_succ_cons, List.drop_zero]
              go_wp2_with fail
              refine NoPanic.normal ?_
              clear g1 HSto HAt1 HSt HK7
              have e10 := e9.out
              have e11 : wrap64 ((8 * (r + 1) : Nat) : Int) = ((8 * (r + 1) : Nat) : Int) := IntWalk.wrap64_in _ (by omega)
              go_wp2_with fail
              go_roundw
              case rel =>
                first
                  | exact ⟨r + 1, by omega, rfl, HSt8⟩
                  | exact ⟨r + 1, by omega, by rw [← e9.out], HSt8⟩
                  | exact ⟨r + 1, by omega, by go_num, HSt8⟩
                  | (repeat apply Exists.intro
                     refine ⟨?_, rfl⟩
                     exact ⟨r + 1, by omega, rfl, HSt8⟩)
              case measure => have := HR8.out; simp [Go.RowKit.intOf]; omega
        · obtain rfl : NN = r := by omega
          obtain ⟨S', cur', hbw7, hch7, hgr7, he7⟩ := HSt.out
          obtain ⟨n1, n2, n3, n4, n5, n6⟩ := HN8.out
          have hEnd := burst_end (cur' := cur') (NW := NW) (bit := bit) (pat := pat) HBw.out.sd.ds HPp.out HBt.out HX.out.2.2.2.2.1 hkl HX.out.1 HX.out.2.1 (by rw [n4]; exact HLl.out.symm) n5 (by rw [n6]; exact n1.symm) (fun z => by rw [he7 z, n4])
          rw [← HQ.out] at hEnd
          have HEnd := Lib.hid hEnd
          have HSD7 := Lib.hid hbw7.sd
          have hg3 : w7.cell? ⟨y.g, 3, none⟩ = some (.pointer (some ⟨y.d, 0, none⟩)) := hbw7.blk.cell 3
          have hy7 : Hid (y.g < w7.heap.size) := Lib.hid hbw7.blk.lt
          have hq64 : q < 18446744073709551616 := by rw [HQ.out]; exact HPp.out.head64.1
          have hS0 : ∀ z, S2 z → w0.heap.size ≤ z := fun z hz => (HS2.out z (.inl hz)).1
          have HB07 : Hid (Below w0.heap.size w0 w7) := Lib.hid (HB06.out.trans (hch7.toBelow HB06.out.size hS0))
          have hnS : ∀ z, w4.heap.size ≤ z → ¬ S2 z := fun z h1 h2 => by have h5 := (HS2.out z (.inl h2)).2; have h7 := HB34.out.size; omega
          have HWas7 : Hid (Reads w7 w7.heap.size 1 A1 m1 (u8s (wsB L0))) := Lib.hid ((hch7.reads (HWas.out.1.more (Nat.le_of_lt HGz6.out)) (Nat.le_refl _) (fun ad h => hnS _ (HWas.out.2 ad h))).more hch7.size)
          have HNow7 : Hid (Reads w7 w7.heap.size 1 (some ⟨gz, 0, none⟩) m1 (u8s m8)) := Lib.hid (by
            have h1 := hch7.blk HK6.out (hnS _ HGz.out)
            exact (reads_of_blk h1 (by simp [u8s, n2]) (fun z u hu => by simpa using hu)).more (Nat.le_refl _))
          have hle : ¬ ((8 * NN : Nat) : Int) < (m1 : Int) := by have := HMM.out; omega
          have e7 : decide (((8 * NN : Nat) : Int) < (m1 : Int)) = false := decide_eq_false hle
          have HFin : Hid (∀ W, Below w7.heap.size w7 W → Below w.heap.size w W) := Lib.hid (fun W hW => HBx.out.trans ((HB07.out.trans (hW.mono HB07.out.size)).mono HBx.out.size))
          obtain ⟨r8, hr8⟩ : ∃ r8, 8 * NN = r8 := ⟨_, rfl⟩
          rw [hr8] at hle e7 ⊢
          clear HSt hbw7 hch7 hgr7 he7 hEnd n4 n5 hS0 hnS hrl hr hr8
          by_cases hE : NW = L0
          · have hwk := HEnd.out.1 hE
            have HRe : Hid (Calls Tryz.prog 25 #[.iface 37 (.pointer (some ⟨y.d, 0, none⟩)), .int .u64 (q : Int)] w7 fun e w' => ∃ (A : Option Addr) (m c : Nat), e = .returned (.tuple #[.slice A m c, .int .i64 0]) ∧ Hid (Reads w' w'.heap.size 1 A m (u8s pl) ∧ Below w7.heap.size w7 w')) := Lib.hid (by
              have h0 := bread_any HSD7.out q hq64
              rw [hwk] at h0
              refine h0.mono (fun e w' h => ?_)
              unfold RetRd at h
              rw [if_pos rfl] at h
              obtain ⟨A, m, c, h1, h2, h3, h4, h5, h6⟩ := h
              exact ⟨A, m, c, h1, Lib.hid ⟨h3, h6⟩⟩)
            rw [hE] at n6
            rw [n6] at HWas7
            have HB8 := Lib.hid n3
            clear hwk HEnd n6 n1 n2 n3
            go_wp2_with (go_at_call 25; refine HRe.out.mono ?_; rintro e w8 ⟨A8, k8, c8, rfl, hh8⟩; refine stop ?_)
            unfold Stop
            have hb8 := hh8.out.2
            have HEq1 := Lib.hid (bytesEq_same A1 (some ⟨gz, 0, none⟩) m1 c1 m1 m1 _ _ m8 w8 (HWas7.out.below hb8) (HNow7.out.below hb8) HB8.out)
            have HEq2 := Lib.hid (bytesEq_same A8 A k8 c8 k4 c _ _ pl w8 hh8.out.1 (HRt.out.below (HB07.out.trans (hb8.mono HB07.out.size))) HBt.out)
            have HF := Lib.hid (HFin.out w8 hb8)
            clear hb8 hh8 HFin HRe
            go_wp2_with (first
              | (go_at_call 26; refine HEq1.out.mono ?_; rintro e w9 ⟨rfl, rfl⟩)
              | (go_at_call 26; refine HEq2.out.mono ?_; rintro e w9 ⟨rfl, rfl⟩))
            go_ret
            exact ⟨rfl, HF.out⟩
          · obtain ⟨e0, he0, hwk⟩ := HEnd.out.2 hE
            have HRe : Hid (Calls Tryz.prog 25 #[.iface 37 (.pointer (some ⟨y.d, 0, none⟩)), .int .u64 (q : Int)] w7 fun e w' => e = .returned (.tuple #[.slice none 0 0, .int .i64 (e0 : Int)]) ∧ Below w7.heap.size w7 w') := Lib.hid (by
              have h0 := bread_any HSD7.out q hq64
              rw [hwk] at h0
              refine h0.mono (fun e w' h => ?_)
              unfold RetRd at h
              rw [if_neg he0] at h
              exact h)
            have HCk : Hid (∀ W, Below w7.heap.size w7 W → Calls Tryz.prog 27 #[.iface 37 (.pointer (some ⟨y.d, 0, none⟩)), .int .u64 (q : Int)] W fun e w' => e = .returned (.int .i64 (e0 : Int)) ∧ Below W.heap.size W w') := Lib.hid (fun W hW => bcheck_any (HSD7.out.below hW) q hq64 (by rw [hwk]))
            have hne : wsB L0 ≠ m8 := fun e => hE (by
              rw [← n6] at e
              exact (wsB_inj HLb.out HN8.out.2.2.2.2.1 e).symm)
            have x1 : ((e0 : Int) != 0) = true := by rw [bne, beq_eq_false_iff_ne.2 (by omega)]; rfl
            have x2 : ((e0 : Int) == 0) = false := beq_eq_false_iff_ne.2 (by omega)
            have HB8 := Lib.hid n3
            have HNe := Lib.hid hne
            clear hwk HEnd n6 n1 n2 n3 hne he0
            go_wp2_with (go_at_call 25; refine HRe.out.mono ?_; rintro e w8 ⟨rfl, hb8⟩; refine stop ?_)
            unfold Stop
            have HEq1 := Lib.hid (bytesEq_not A1 (some ⟨gz, 0, none⟩) m1 c1 m1 m1 _ _ (wsB L0) m8 w8 (HWas7.out.below hb8) (HNow7.out.below hb8) (fun z hz => wsB_lt z hz) HB8.out HNe.out)
            have hg8 : w8.cell? ⟨y.g, 3, none⟩ = some (.pointer (some ⟨y.d, 0, none⟩)) := (hb8.cell (p := ⟨y.g, 3, none⟩) hy7.out).trans hg3
            have HCk8 := Lib.hid (HCk.out w8 hb8)
            have HB78 := Lib.hid hb8
            clear hb8 HRe HCk hg3
            go_wp2_with (first
              | (go_at_call 26; refine HEq1.out.mono ?_; rintro e w9 ⟨rfl, rfl⟩)
              | (go_at_call 27; refine HCk8.out.mono ?_; rintro e w10 ⟨rfl, hb10⟩; have HB10 := Lib.hid hb10; clear hb10))
            go_ret
            exact ⟨rfl, HFin.out _ (HB78.out.trans (HB10.out.mono HB78.out.size))⟩
end Go.Proofs.YtpihhlbfpbngaaaGreatDoor
