/- The walks and laws that the claim leans on. -/
import Derived.Test.YtpihhlbfpbngaaaGreatDoorJLcla
import Derived.Test.YtpihhlbfpbngaaaGreatDoorJbu
import Derived.Test.YtpihhlbfpbngaaaGreatDoorProg
import Derived.WalkSpells
import Derived.WalkLawsBesides
import Derived.Deep.AppendLies
import Derived.Deep.OwnRows
import Derived.BigQuiet
import Derived.Lib.Hide
import Derived.StillTail
import Derived.Deep.RegionHeld3
import Derived.Deep.CutBlock
import Derived.Lib.ItoaNum
import Derived.Lib.AppendZeros
import Derived.Lib.BufferMore
import Derived.Lib.Zigzag
import Derived.Shelf.SlMaps.Clone
import Derived.Shelf.SlIter.Sorted
import Derived.Lib.QuoteBits
import Derived.Lib.SlKeysI
import Derived.Deep.Onto
import Derived.Laws.CopyOwn
import Derived.Lib.BytesEntry
import Derived.Lib.SlBytesConst
namespace Go.Proofs.YtpihhlbfpbngaaaGreatDoor
open Go.RowKit Go.Maps
theorem count5 (l : List Nat) : l.count 0 + l.count 1 + l.count 2 + l.count 3 + l.count 4 ≤ l.length := by
  induction l with
  | nil => simp
  | cons a t ih =>
    simp only [List.count_cons, List.length_cons]
    have h : ∀ k : Nat, (if (a == k) = true then 1 else 0) = if a = k then 1 else 0 := fun k => by
      by_cases e : a = k
      · rw [if_pos (beq_iff_eq.2 e), if_pos e]
      · rw [if_neg (fun h => e (beq_iff_eq.1 h)), if_neg e]
    simp only [h]
    split <;> split <;> split <;> split <;> split <;> omega
theorem need_le (a c : Nat) : 4 * need a c ≤ a + 3 := by
  unfold need
  split
  · omega
  · have h := (per_le c).1
    have h2 : (a - 1) / perC c ≤ (a - 1) / 4 := Nat.div_le_div_left h (by omega)
    omega
theorem room_le (al : List Nat) : 4 * room al ≤ al.length + 15 := by
  have h := count5 al
  have h0 := need_le (al.count 0) 0
  have h1 := need_le (al.count 1) 1
  have h2 := need_le (al.count 2) 2
  have h3 := need_le (al.count 3) 3
  have h4 := need_le (al.count 4) 4
  unfold room
  omega
theorem alW_len (n : Nat) (al : List Nat) : ∀ j, (alW n al j).length = al.length + j
  | 0 => rfl
  | j + 1 => by
    show (alW n al j).length + 1 = _
    rw [alW_len n al j]
    omega
theorem nBlk_sub (n k : Nat) (h : k + 1 < nBlk n) : nBlk (n - 456 * (k + 1)) = nBlk n - (k + 1) := by
  unfold nBlk at h ⊢
  split at h
  · omega
  · split <;> omega
theorem nBlk_lt (n j : Nat) (h : j + 1 ≤ nBlk n) (hj : 0 < j) : 456 * j < n := by
  unfold nBlk at h
  split at h <;> omega
theorem app_room {n m : Nat} (h : n + m ≤ 100000) : n + m ≤ maxLen ∧ (n + m) * 8 ≤ 140737488355328 := by
  unfold maxLen
  omega
def LnkT (w w11 : World) (g d q gb go m' k1 : Nat) (A2 : Option Addr) (m2 : Nat) (bl bl2 pl : List Nat) : Prop :=
  (w11.cell? ⟨g, 3, none⟩ = some (.pointer (some ⟨d, 0, none⟩)) ∧ g < w11.heap.size) ∧ Below w.heap.size w w11 ∧ Reads w11 w11.heap.size 1 (some ⟨gb, go, none⟩) m' (uCells bl) ∧ Reads w11 w11.heap.size 1 A2 m2 (uCells bl2) ∧
  (∀ W, Below w11.heap.size w11 W → Calls Tryz.prog 25 #[.iface 37 (.pointer (some ⟨d, 0, none⟩)), .int .u64 (q : Int)] W fun e w' => ∃ (A : Option Addr) (m c : Nat), e = .returned (.tuple #[.slice A m c, .int .i64 0]) ∧ Hid (Reads w' w'.heap.size 1 A m (u8s pl) ∧ m ≤ c ∧ Below W.heap.size W w')) ∧
  (∀ W, Below w11.heap.size w11 W → Calls Tryz.prog 32 #[.iface 37 (.pointer (some ⟨d, 0, none⟩)), .int .u64 (q : Int)] W fun e w' => ∃ (A : Option Addr) (m c : Nat), e = .returned (.tuple #[.slice A m c, .int .i64 0]) ∧ Hid (m = (bl.take k1 ++ bl2).length ∧ Reads w' w'.heap.size 1 A m (uCells (bl.take k1 ++ bl2)) ∧ m ≤ c ∧ Below W.heap.size W w'))
theorem BW.dirCell {a : DA} {L T K : Nat} {x : HA} {y : WA} {cs : Nat → CS} {f : Nat → Option Nat} {N m b0 : Nat} {S : Fp} {cur : Nat → Nat} {w w' : World} (h : BW a L T K x y cs f N m b0 S cur w) (hc : Chg (sfp S x) w w') : w'.cell? ⟨y.g, 3, none⟩ = some (.pointer (some ⟨y.d, 0, none⟩)) :=
  (hc.blk h.blk (fun e => e.elim h.off.1 (h.sd.ds.fp_ne h.blk (by decide)))).cell 3
theorem lnk_ints (k m' k4 : Nat) (h : k + 1 < m') (hm : m' ≤ 5) (ho : 456 * (k + 1) ≤ k4) (h4 : k4 ≤ 2000) : ∃ k1 o : Nat, k + 1 = k1 ∧ 456 * (k + 1) = o ∧ o ≤ k4 ∧ Hid (((k : Int) + 1 = (k1 : Int) ∧ wrap64 ((k : Int) + 1) = (k1 : Int) ∧ (k1 : Int) * 456 = (o : Int) ∧ wrap64 ((k1 : Int) * 456) = (o : Int) ∧ ((k : Int) + 1) * 456 = (o : Int) ∧ wrap64 (((k : Int) + 1) * 456) = (o : Int)) ∧ ((o : Int) ≤ (k4 : Int) ∧ (0 : Int) ≤ (o : Int) ∧ IntKind.i64.wrap (o : Int) = (o : Int) ∧ IntKind.i64.wrap (k1 : Int) = (k1 : Int) ∧ wrap64 (o : Int) = (o : Int)) ∧ ((k1 : Int) ≤ (m' : Int) ∧ (0 : Int) ≤ (k1 : Int))) := by
  have e1 : (k : Int) + 1 = ((k + 1 : Nat) : Int) := by omega
  have e3 : ((k + 1 : Nat) : Int) * 456 = ((456 * (k + 1) : Nat) : Int) := by omega
  have w1 : wrap64 ((k + 1 : Nat) : Int) = ((k + 1 : Nat) : Int) := IntWalk.wrap64_in _ (by omega)
  have w2 : wrap64 ((456 * (k + 1) : Nat) : Int) = ((456 * (k + 1) : Nat) : Int) := IntWalk.wrap64_in _ (by omega)
  refine ⟨k + 1, 456 * (k + 1), rfl, rfl, ho, Lib.hid ⟨⟨e1, ?_, e3, ?_, ?_, ?_⟩, ⟨by omega, by omega, wrapi _ (by omega), wrapi _ (by omega), w2⟩, by omega, by omega⟩⟩
  · rw [e1]; exact w1
  · rw [e3]; exact w2
  · rw [e1]; exact e3
  · rw [e1, e3]; exact w2
set_option maxRecDepth 100000 in
set_option maxHeartbeats 16000000 in
theorem blobLinks_law (A : Option Addr) (n c : Nat) (l : List Nat) (at8 other : Nat) (w : World) (hin : InB w A n c l) (hat8 : at8 < 256) (hoth : other < 18446744073709551616) (ht : Tab w) (hpy : Pay w) :
    Calls Tryz.prog 7 #[.slice A n c, .int .u8 (at8 : Int), .int .u64 (other : Int)] w fun e w' => e = .returned (.bool true) ∧ Below w.heap.size w w' := by
  have HAw := Lib.hid (awakeB_any w ht hpy)
  have HIn := Lib.hid hin
  have HT := Lib.hid ht
  have HPy := Lib.hid hpy
  obtain ⟨k4, hk4⟩ : ∃ k4, min n 2000 = k4 := ⟨_, rfl⟩
  have hle := hin.le
  have m1 : min (n : Int) 2000 = (k4 : Int) := by omega
  have m2 : (k4 : Int) ≤ (c : Int) := by omega
  have m3 : (0 : Int) ≤ (k4 : Int) := by omega
  have m4 : (if (2000 : Int) < (n : Int) then (2000 : Int) else (n : Int)) = (k4 : Int) := by split <;> omega
  have HK := Lib.hid (show k4 ≤ 2000 ∧ k4 ≤ c ∧ min n 2000 = k4 from ⟨by omega, by omega, hk4⟩)
  have hln : l.length = n := by have := hin.r.1; simp [u8s] at this; omega
  have HLn : Hid ((l.take 2000).length = k4) := Lib.hid (by rw [List.length_take]; omega)
  have HBt : Hid (∀ z ∈ l.take 2000, z < 256) := Lib.hid (fun z hz => hin.b z (List.mem_of_mem_take hz))
  have HRt : Hid (Reads w w.heap.size 1 A k4 (u8s (l.take 2000))) := Lib.hid (by
    have h := Reads.take8 hin.r 2000
    rw [hk4, show (u8s l).take 2000 = u8s (l.take 2000) by simp [u8s]] at h
    exact h)
  obtain ⟨pl, hpl⟩ : ∃ pl, l.take 2000 = pl := ⟨_, rfl⟩
  rw [hpl] at HLn HBt HRt
  clear hin ht hpy hk4 hle hln hpl
  go_enter Tryz.func7, Tryz.ntmps7
  go_wp2_with (go_at_call 12; refine HAw.out.mono ?_; rintro e w1 ⟨rfl, hb1⟩; refine stop ?_)
  unfold Stop
  have HB1 := Lib.hid hb1
  have HBg := Lib.hid (beginB_any 6 (by omega) (by omega) w1 (HT.out.below hb1) (HPy.out.below hb1))
  rw [show ((6 : Nat) : Int) = 6 from rfl] at HBg
  clear hb1 HAw
  go_wp2_with (go_at_call 13; refine HBg.out.mono ?_; rintro e w2 ⟨a, T, x, y, S, rfl, hbw, hT, hb⟩; refine stop ?_)
  unfold Stop
  have HB2 := Lib.hid (HB1.out.trans (hb.mono HB1.out.size))
  have hold : ∀ k, sfp S x k → w.heap.size ≤ k := fun k hk => by
    obtain ⟨_, _, _, _, l5, l6, l7, l8⟩ := hbw.sd.ds.lo
    refine Nat.le_trans HB1.out.size ?_
    rcases hk with h | h
    · exact l8 k h
    · rcases h with h | h | h
      · rw [h]; exact l5
      · rw [h]; exact l6
      · rw [h]; exact l7
  have HOld := Lib.hid hold
  have HPut := Lib.hid (putK_any hbw [] (Cap.new (fun _ _ => rfl)) 0 (by omega) A k4 c pl ((HRt.out.below HB2.out).more HB2.out.size) (fun h0 ad h hs => by
    have h1 := hold _ hs
    obtain ⟨ad', hA', hb', _⟩ := HRt.out.2 h0
    rw [h] at hA'
    injection hA' with hA'
    subst hA'
    omega) HBt.out HK.out.1 HK.out.2.1 HIn.out.cap (Nat.le_trans (room_one k4 HK.out.1) (by omega)) (by omega) (by omega))
  rw [show ((0 : Nat) : Int) = 0 from rfl] at HPut
  have HTT := Lib.hid hT
  clear hbw hT hb hold HBg
  go_wp2_with (go_at_call 14; refine HPut.out.mono ?_; intro e w3 h3; obtain ⟨q, A', m', c', rfl, hall⟩ := ret_putK h3; clear h3; refine stop ?_)
  unfold Stop
  obtain ⟨bl, cs2, f2, S2, cur2, hq, hm, hrd, had, hpp, hbw2, hch, hgr, hmc, _⟩ := hall.out
  have HSz2 := Lib.hid HB2.out.size
  have HB3 := Lib.hid (HB2.out.trans (hch.toBelow HB2.out.size HOld.out))
  have hpl2 : pl.length ≤ 2000 := by rw [HLn.out]; exact HK.out.1
  have hmk : m' = nBlk k4 := by rw [hm, hpp.len, HLn.out]
  have hm0 : 0 < m' := by rw [hm, hpp.len]; exact nBlk_drop pl
  have hm5 : m' ≤ 5 := by rw [hmk]; exact nBlk_few k4 HK.out.1
  obtain ⟨k, hk⟩ : ∃ k, at8 % m' = k := ⟨_, rfl⟩
  have hkm : k < m' := by rw [← hk]; exact Nat.mod_lt _ hm0
  have hkl : k < bl.length := by omega
  have t2 : (at8 : Int) % (m' : Int) = (k : Int) := by rw [← hk]; push_cast; rfl
  have t1 : (at8 : Int).tmod (m' : Int) = (k : Int) := by rw [Int.tmod_eq_emod_of_nonneg (by omega)]; exact t2
  have t3 : ((m' : Int) == 0) = false := by rw [beq_eq_false_iff_ne]; omega
  have t4 : IntKind.i64.wrap (at8 : Int) = (at8 : Int) := wrapi at8 (by omega)
  have hbk0 := hpp.bk k hkl
  obtain ⟨b, hb⟩ : ∃ b, bl[k] = b := ⟨_, rfl⟩
  obtain ⟨nx, hnx⟩ : ∃ nx, bl.getD (k + 1) 0 = nx := ⟨_, rfl⟩
  obtain ⟨pk, hpk⟩ : ∃ pk, pl.drop (456 * k) = pk := ⟨_, rfl⟩
  rw [hb, hnx, hpk] at hbk0
  have hpk2 : pk.length ≤ 2000 := by rw [← hpk, List.length_drop]; omega
  have hld := hbk0.load hbw2.sd.ds hpk2
  obtain ⟨L0, hL0⟩ : ∃ L0, payL nx pk = L0 := ⟨_, rfl⟩
  rw [hL0] at hld
  obtain ⟨NN, hN⟩ : ∃ NN, L0.length = NN := ⟨_, rfl⟩
  have hN60 : 3 ≤ NN ∧ NN ≤ 60 := by rw [← hN, ← hL0, payL_len]; exact bSize_le _
  obtain ⟨kk, ii, hlv, hcl⟩ := hbk0.live
  have hwl : ((List.range (payW (cs2 kk).cl)).map fun j => cur2 (pOff b / 8 + j)) = L0 := by
    apply List.ext_getElem
    · rw [List.length_map, List.length_range, ← hL0, payL_len, hcl]
    · intro j h1 h2
      have h3 := hbk0.words j (by rw [hL0]; exact h2)
      rw [List.getElem_map, List.getElem_range, h3, hL0, List.getD_eq_getElem?_getD, List.getElem?_eq_getElem h2]
      rfl
  have HPy : Hid (Calls Tryz.prog 20 #[.pointer (some ⟨y.g, 0, none⟩), .int .u64 (b : Int)] w3 fun e w' => ∃ (g c4 : Nat), e = .returned (.slice (some ⟨g, 0, none⟩) NN c4) ∧ Hid (∃ cs, Blk w' g 26 cs ∧ cs.toList.take NN = uCells L0 ∧ w3.heap.size ≤ g ∧ NN ≤ c4 ∧ Below w3.heap.size w3 w')) := Lib.hid (by
    have h := payload_own hbw2 hlv
    rw [hwl] at h
    refine h.mono (fun e w' h => ?_)
    obtain ⟨A4, m4, c4, h1, h2, h3, h4⟩ := h
    rw [hN] at h2
    subst h2
    rcases h3.2 with ⟨_, h0⟩ | ⟨g, cap, cur0, hv, hbg, hh, hnc, _, _, htk⟩
    · omega
    · injection hv with e1 e2 e3
      subst e1 e3
      rw [Nat.mul_one] at htk
      exact ⟨g, c4, h1, Lib.hid ⟨cur0, hh, htk, hbg, hnc, h4⟩⟩)
  obtain ⟨j, hj⟩ : ∃ j, NN = j + 1 := ⟨NN - 1, by omega⟩
  have HLW : Hid (∀ next, linkW b next L0 = [(pOff b, next), (pOff b + 8 * j, sumW ((L0.set 0 next).take j))]) := Lib.hid (fun next => by unfold linkW; rw [hN, hj, Nat.add_sub_cancel])
  have HLk : Hid (∀ (W : World) (next : Nat), Below w3.heap.size w3 W → next < 18446744073709551616 → Calls Tryz.prog 33 #[.iface 37 (.pointer (some ⟨y.d, 0, none⟩)), .int .u64 (b : Int), .int .u64 (next : Int)] W (RetLk W b next L0)) := Lib.hid (fun W next hW hn => link_any (hbw2.sd.below hW) b next pk.length L0 hld.2.2.1 hld.2.2.2 hn hld.2.1 hld.1)
  have HA0 : Hid (∀ W, Calls Tryz.prog 24 #[.int .u64 (b : Int), .int .i64 0] W fun e w' => e = .returned (.int .u64 (pOff b : Int)) ∧ W = w') := Lib.hid (fun W => by
    have h1 := at_any b 0 (by omega) W
    have h2 : pAt b 0 = pOff b := by unfold pAt; rw [if_neg (by have := hld.2.2.1; omega)]; rfl
    rw [h2] at h1
    exact h1)
  have HAj : Hid (∀ W, Calls Tryz.prog 24 #[.int .u64 (b : Int), .int .i64 (j : Int)] W fun e w' => e = .returned (.int .u64 ((pOff b + 8 * j : Nat) : Int)) ∧ W = w') := Lib.hid (fun W => by
    have h1 := at_any b j (by omega) W
    have h2 : pAt b j = pOff b + 8 * j := by unfold pAt; rw [if_neg (by have := hld.2.2.1; omega)]
    rw [h2] at h1
    exact h1)
  have HLb : Hid (∀ x ∈ L0.set 0 other, x < 18446744073709551616) := Lib.hid (fun z hz => by
    rcases List.mem_or_eq_of_mem_set hz with hz | hz
    · rw [← hL0] at hz
      exact payL_lt (by rw [← hnx]; exact hpp.nx _) (fun q hq => HBt.out q (by rw [← hpk] at hq; exact List.mem_of_mem_drop hq)) hpk2 z hz
    · rw [hz]; exact hoth)
  obtain ⟨hx1, gb, go, hA3, hgb, fk⟩ := u_facts hrd (k := k) hkm
  rw [hb] at fk
  have HRd := Lib.hid hrd
  have HAd := Lib.hid had
  have HPp := Lib.hid hpp
  have HBw := Lib.hid hbw2
  have HCh := Lib.hid hch
  have HGr := Lib.hid hgr
  have HQ := Lib.hid hq
  have HM := Lib.hid (And.intro hm hmk)
  have HX := Lib.hid (show bl[k] = b ∧ bl.getD (k + 1) 0 = nx ∧ pl.drop (456 * k) = pk ∧ payL nx pk = L0 ∧ L0.length = NN ∧ NN = j + 1 ∧ pk.length ≤ 2000 from ⟨hb, hnx, hpk, hL0, hN, hj, hpk2⟩)
  have HGb := Lib.hid hgb
  have HFk := Lib.hid fk
  have HMc := Lib.hid hmc
  have HOt := Lib.hid hoth
  have HTb3 := Lib.hid hbw2.sd.ds.tab
  have hj60 : 2 ≤ j ∧ j < 60 ∧ j < NN := by omega
  have hNj : (NN : Int) - 1 = (j : Int) := by omega
  have hNj2 : wrap64 ((NN : Int) - 1) = (j : Int) := by rw [IntWalk.wrap64_in _ (by omega)]; exact hNj
  have HNj := Lib.hid (And.intro hNj hNj2)
  have hz5 : (0 : Int) ≤ (k : Int) := by omega
  have hz6 : (k : Int) < (m' : Int) := by omega
  have d0 : ((m' : Int) == 0) = false := t3
  subst hA3
  clear hall hq hm hrd had hpp hbw2 hch hgr hmc HPut HB1 HB2 hmk hk hbk0 hb hnx hpk hpk2 hld hL0 hN hlv hcl hwl hgb hoth hNj hNj2 hj hpl2 t3
  go_wp2_with (go_at_call 20; refine HPy.out.mono ?_; rintro e w4 ⟨g, c4, rfl, hh⟩; refine stop ?_)
  unfold Stop
  obtain ⟨cs4, hB4, ht4, hg4, hc4, hb4⟩ := hh.out
  have HB4 := Lib.hid hb4
  have fs4 : w4.drew.cell? ⟨y.g, 3, none⟩ = some (.pointer (some ⟨y.d, 0, none⟩)) ∧ w4.drew.cell? ⟨gb, go + k, none⟩ = some (.int .u64 (b : Int)) := ⟨(HBw.out.blk.below hb4 HBw.out.blk.lt).cell 3, (hb4.cell (p := ⟨gb, go + k, none⟩) HGb.out).trans fk⟩
  have HLk4 := Lib.hid (HLk.out w4.drew other hb4.drew HOt.out)
  have HK4 := Lib.hid hB4
  have HT4 := Lib.hid ht4
  have HG4 := Lib.hid hg4
  have HS4 : Hid (g < w4.heap.size) := Lib.hid hB4.lt
  clear hh hB4 ht4 hg4 hb4 HPy fk t1 t2 t4
  go_upto_region 12 with fail
  refine wp_region_scriptH (fun w' => w'.cell? ⟨y.g, 3, none⟩ = some (.pointer (some ⟨y.d, 0, none⟩)) ∧ w'.cell? ⟨gb, go + k, none⟩ = some (.int .u64 (b : Int))) 16 [] [(1, 0), (1, 1), (1, 2), (1, 3), (1, 4), (1, 5), (1, 6), (1, 7), (1, 8), (1, 9), (0, 10), (1, 11), (1, 12), (1, 13), (1, 14), (1, 15)] (by kernel_rfl) (by kernel_rfl) fs4 ?_
  refine wpScriptH_take (.pointer (some ⟨y.g, 0, none⟩)) (by rfl) (by rfl) (fun w' hS => ?_) ?_
  · go_simp
  simp only [zA, zB, Act.put, zD, zE, zF]
  refine wpScriptH_take (.pointer (some ⟨y.g, 0, none⟩)) (by rfl) (by rfl) (fun w' hS => ?_) ?_
  · go_simp
  simp only [zA, zB, zC, Act.put, zD, zE, zF]
  refine wpScriptH_take (.pointer (some ⟨y.g, 3, none⟩)) (by rfl) (by rfl) (fun w' hS => ?_) ?_
  · go_simp
  simp only [zA, zB, zC, Act.put, zD, zE, zF]
  refine wpScriptH_take (.pointer (some ⟨y.d, 0, none⟩)) (by rfl) (by rfl) (fun w' hS => ?_) ?_
  · obtain ⟨s1, s2⟩ := hS
    go_simp
  simp only [zA, zB, zC, Act.put, zD, zE, zF]
  refine wpScriptH_take (.iface 37 (.pointer (some ⟨y.d, 0, none⟩))) (by rfl) (by rfl) (fun w' hS => ?_) ?_
  · go_simp
  simp only [zA, zB, zC, Act.put, zD, zE, zF]
  refine wpScriptH_take (.slice (some ⟨gb, go, none⟩) m' c') (by rfl) (by rfl) (fun w' hS => ?_) ?_
  · go_simp
  simp only [zA, zB, zC, Act.put, zD, zE, zF]
  refine wpScriptH_take (.int .i64 (k : Int)) (by rfl) (by rfl) (fun w' hS => ?_) ?_
  · go_simp
  simp only [zA, zB, zC, Act.put, zD, zE, zF]
  refine wpScriptH_take (.pointer (some ⟨gb, go + k, none⟩)) (by rfl) (by rfl) (fun w' hS => ?_) ?_
  · go_simp
  simp only [zA, zB, zC, Act.put, zD, zE, zF]
  refine wpScriptH_take (.int .u64 (b : Int)) (by rfl) (by rfl) (fun w' hS => ?_) ?_
  · obtain ⟨s1, s2⟩ := hS
    go_simp
  simp only [zA, zB, zC, Act.put, zD, zE, zF]
  refine wpScriptH_take (.int .u64 (other : Int)) (by rfl) (by rfl) (fun w' hS => ?_) ?_
  · go_simp
  simp only [zA, zB, zC, Act.put, zD, zE, zF]
  refine wpScriptH_do (by rfl) ?_
  go_wp2_with (go_at_call 33; refine HLk4.out.mono ?_; rintro e w5 ⟨g5, rfl, hr5, hg5, hb5⟩; have HR5 := Lib.hid hr5; have HG5 := Lib.hid hg5; have HB5' := Lib.hid hb5; clear hr5 hg5 hb5)
  have HB5 : Hid (Below w4.heap.size w4 w5) := Lib.hid ((Below.refl _ w4).drew.trans HB5'.out)
  refine ⟨⟨(HB5.out.cell (p := ⟨y.g, 3, none⟩) (Nat.lt_of_lt_of_le HBw.out.blk.lt HB4.out.size)).trans fs4.1, (HB5.out.cell (p := ⟨gb, go + k, none⟩) (Nat.lt_of_lt_of_le HGb.out HB4.out.size)).trans fs4.2⟩, ?_⟩
  refine wpScriptH_take (.tuple #[.slice (some ⟨g5, 0, none⟩) 2 2, .int .i64 0]) (by rfl) (by rfl) (fun w' hS => ?_) ?_
  · go_simp
  simp only [zA, zB, zC, Act.put, zD, zE, zF]
  refine wpScriptH_take (.slice (some ⟨g5, 0, none⟩) 2 2) (by rfl) (by rfl) (fun w' hS => ?_) ?_
  · go_simp
  simp only [zA, zB, zC, Act.put, zD, zE, zF]
  refine wpScriptH_take (.int .i64 0) (by rfl) (by rfl) (fun w' hS => ?_) ?_
  · go_simp
  simp only [zA, zB, zC, Act.put, zD, zE, zF]
  refine wpScriptH_take (.slice (some ⟨g5, 0, none⟩) 2 2) (by rfl) (by rfl) (fun w' hS => ?_) ?_
  · go_simp
  simp only [zA, zB, zC, Act.put, zD, zE, zF]
  refine wpScriptH_take (.int .i64 0) (by rfl) (by rfl) (fun w' hS => ?_) ?_
  · go_simp
  simp only [zA, zB, zC, Act.put, zD, zE, zF]
  show wpList _ _ _ _ _ _
  simp only [List.drop_succ_cons, List.drop_zero]
  go_wp2_with fail
  refine NoPanic.normal ?_
  have hB5 : Blk w5 g 26 cs4 := HK4.out.below HB5.out HS4.out
  have hcs4 : cs4[0]? = some (.int .u64 ((L0.getD 0 0 : Nat) : Int)) := by
    have h1 : (cs4.toList.take NN)[0]? = some (.int .u64 ((L0.getD 0 0 : Nat) : Int)) := by
      rw [HT4.out]
      have h2 : 0 < L0.length := by have := HX.out.2.2.2.2.1; omega
      simp [uCells, List.getD_eq_getElem?_getD, h2]
    rw [List.getElem?_take, if_pos (by omega)] at h1
    rw [← Array.getElem?_toList]
    exact h1
  obtain ⟨y0, hy0⟩ : ∃ y0, L0.getD 0 0 = y0 := ⟨_, rfl⟩
  rw [hy0] at hcs4
  have c0 : w5.cell? ⟨g, 0, none⟩ = some (.int .u64 (y0 : Int)) := by rw [hB5.cell]; exact hcs4
  have z0 : w5.frozen? ⟨g, 0, none⟩ = false := hB5.frozen 0
  obtain ⟨sm, hsm⟩ : ∃ sm, sumW ((L0.set 0 other).take j) = sm := ⟨_, rfl⟩
  have hsm32 : sm < 4294967296 := by rw [← hsm]; exact sumW_lt _
  have HW6 : Hid (∃ cs5, Blk (w5.setCell ⟨g, 0, none⟩ (.int .u64 (other : Int))) g 26 cs5 ∧ cs5.toList.take NN = uCells (L0.set 0 other)) := Lib.hid ⟨_, hB5.set_ 0 _, by
    rw [Array.toList_setIfInBounds, List.take_set, HT4.out]
    unfold uCells
    rw [List.map_set]⟩
  have HB6 : Hid (Below w3.heap.size w3 (w5.setCell ⟨g, 0, none⟩ (.int .u64 (other : Int)))) := Lib.hid ((HB4.out.trans (HB5.out.mono HB4.out.size)).setCell HG4.out _)
  have HR6 : Hid (Reads (w5.setCell ⟨g, 0, none⟩ (.int .u64 (other : Int))) (w5.setCell ⟨g, 0, none⟩ (.int .u64 (other : Int))).heap.size 2 (some ⟨g5, 0, none⟩) 2 (wrCells (linkW b other L0))) := Lib.hid (by
    have hc : Chg (fun z => z = g) w5 (w5.setCell ⟨g, 0, none⟩ (.int .u64 (other : Int))) := (Chg.refl (fun z => z = g) w5).setCell (p := ⟨g, 0, none⟩) (.inl rfl) _
    refine (hc.reads HR5.out (Nat.le_refl _) (fun ad h => ?_)).more hc.size
    injection h with h
    subst h
    intro e
    have h1 := HG5.out
    have h2 := HS4.out
    have h3 : w4.drew.heap.size = w4.heap.size := rfl
    have h4 : g5 = g := e
    omega)
  rw [HLW.out other, hsm] at HR6
  have hN0 : (0 : Int) < (NN : Int) := by omega
  have fk6 : (w5.setCell ⟨g, 0, none⟩ (.int .u64 (other : Int))).cell? ⟨gb, go + k, none⟩ = some (.int .u64 (b : Int)) := by
    rw [World.cell?_setCell_other _ _ _ _ (by intro e; injection e with e1 e2; have h1 := HG4.out; have h2 := HGb.out; omega)]
    exact (HB5.out.cell (p := ⟨gb, go + k, none⟩) (Nat.lt_of_lt_of_le HGb.out HB4.out.size)).trans fs4.2
  have HWd : Hid (Calls Tryz.prog 34 #[.slice (some ⟨g, 0, none⟩) j c4] (w5.setCell ⟨g, 0, none⟩ (.int .u64 (other : Int))) fun e w' => e = .returned (.int .u32 (sm : Int)) ∧ w5.setCell ⟨g, 0, none⟩ (.int .u64 (other : Int)) = w') := Lib.hid (by
    obtain ⟨cs5, hB6, ht6⟩ := HW6.out
    have h1 : Reads (w5.setCell ⟨g, 0, none⟩ (.int .u64 (other : Int))) (w5.setCell ⟨g, 0, none⟩ (.int .u64 (other : Int))).heap.size 1 (some ⟨g, 0, none⟩) j (uCells ((L0.set 0 other).take j)) := by
      have hlen : (L0.set 0 other).length = NN := by rw [List.length_set]; exact HX.out.2.2.2.2.1
      refine reads_of_blk hB6 (by unfold uCells; rw [List.length_map, List.length_take, hlen]; omega) (fun z u hu => ?_)
      have h2 : (uCells (L0.set 0 other))[z]? = some u := by
        simp only [uCells, List.map_take, List.getElem?_take] at hu ⊢
        split at hu
        · exact hu
        · cases hu
      rw [← ht6, List.getElem?_take] at h2
      split at h2
      · rw [← Array.getElem?_toList]; exact h2
      · cases h2
    have h2 := wordsX_any (some ⟨g, 0, none⟩) j c4 _ ((L0.set 0 other).take j) _ h1 (fun z hz => HLb.out z (List.mem_of_mem_take hz)) (by omega) (HTb3.out.below HB6.out)
    rw [hsm] at h2
    exact h2)
  have hjc : (j : Int) ≤ (c4 : Int) := by omega
  have hj0 : (0 : Int) ≤ (j : Int) := by omega
  have hNN := HNj.out
  obtain ⟨hNj, hNj2⟩ := hNN
  clear hB5 hcs4 hy0 hsm HB5' HW6 HR5 HK4 fs4 HLk4 HLb
  go_wp2_with (go_at_call 34; refine HWd.out.mono ?_; rintro e w6 ⟨rfl, rfl⟩)
  clear HWd c0 z0
  obtain ⟨O1, hO1⟩ : ∃ O1, pOff b = O1 := ⟨_, rfl⟩
  obtain ⟨O2, hO2⟩ : ∃ O2, O1 + 8 * j = O2 := ⟨_, rfl⟩
  rw [hO1] at HA0 HAj HR6
  rw [hO2] at HAj HR6
  have HO := Lib.hid (And.intro hO1 hO2)
  clear hO1 hO2
  generalize w5.setCell ⟨g, 0, none⟩ (.int .u64 (other : Int)) = w6 at *
  have fs6 : w6.drew.cell? ⟨gb, go + k, none⟩ = some (.int .u64 (b : Int)) := fk6
  have fs7 : (w6.drew.alloc (.cells #[.int .u64 (O1 : Int), .int .u64 (other : Int), .int .u64 (O2 : Int), .int .u64 (sm : Int)] 76)).cell? ⟨gb, go + k, none⟩ = some (.int .u64 (b : Int)) := (World.cell?_alloc_lt _ _ _ (by have h1 := HGb.out; have h2 := HB6.out.size; show gb < w6.drew.heap.size; have h3 : w6.drew.heap.size = w6.heap.size := rfl; omega)).trans fk6
  have HB7 : Hid (Below w3.heap.size w3 (w6.drew.alloc (.cells #[.int .u64 (O1 : Int), .int .u64 (other : Int), .int .u64 (O2 : Int), .int .u64 (sm : Int)] 76))) := Lib.hid (HB6.out.drew.alloc HB6.out.drew.size _)
  have HEq : Hid (Calls Tryz.prog 35 #[.slice (some ⟨g5, 0, none⟩) 2 2, .slice (some ⟨w6.drew.heap.size, 0, none⟩) 2 2] (w6.drew.alloc (.cells #[.int .u64 (O1 : Int), .int .u64 (other : Int), .int .u64 (O2 : Int), .int .u64 (sm : Int)] 76)) fun e w' => e = .returned (.bool true) ∧ Below w3.heap.size w3 w') := Lib.hid (by
    have e1 : (w6.drew.alloc (.cells #[.int .u64 (O1 : Int), .int .u64 (other : Int), .int .u64 (O2 : Int), .int .u64 (sm : Int)] 76)).heap.size = w6.drew.heap.size + 1 := by simp
    have h1 := equW_same (some ⟨g5, 0, none⟩) (some ⟨w6.drew.heap.size, 0, none⟩) 2 2 2 [(O1, other), (O2, sm)] (w6.drew.alloc (.cells #[.int .u64 (O1 : Int), .int .u64 (other : Int), .int .u64 (O2 : Int), .int .u64 (sm : Int)] 76)) ((HR6.out.drew.alloc (Nat.le_refl _) _).more (by rw [e1]; exact Nat.le_succ _)) (by rw [e1]; exact row_reads_at _ _ rfl _ 2 2 76 _ rfl rfl) (by omega)
    exact h1.mono (fun e w' h => ⟨h.1, HB7.out.trans (h.2.mono HB7.out.size)⟩))
  clear fk6
  go_upto_region 16 with fail
  refine wp_region_scriptH (fun w' => w'.cell? ⟨gb, go + k, none⟩ = some (.int .u64 (b : Int))) 23 [] [(1, 0), (1, 1), (1, 2), (1, 3), (1, 4), (1, 5), (1, 6), (1, 7), (1, 9), (1, 11), (1, 12), (1, 13), (1, 14), (1, 15), (1, 17), (0, 8), (1, 10), (0, 16), (1, 18), (0, 19), (0, 20), (1, 21), (1, 22)] (by kernel_rfl) (by kernel_rfl) fs6 ?_
  refine wpScriptH_take (.int .i64 0) (by rfl) (by rfl) (fun w' hS => ?_) ?_
  · go_simp
  simp only [zA, zB, Act.put, zD, zE, zF]
  refine wpScriptH_take (.bool false) (by rfl) (by rfl) (fun w' hS => ?_) ?_
  · go_simp
  simp only [zA, zB, zC, Act.put, zD, zE, zF]
  refine wpScriptH_take (.bool false) (by rfl) (by rfl) (fun w' hS => ?_) ?_
  · go_simp
  simp only [zA, zB, zC, Act.put, zD, zE, zF]
  refine wpScriptH_take (.slice (some ⟨g5, 0, none⟩) 2 2) (by rfl) (by rfl) (fun w' hS => ?_) ?_
  · go_simp
  simp only [zA, zB, zC, Act.put, zD, zE, zF]
  refine wpScriptH_take (.slice (some ⟨gb, go, none⟩) m' c') (by rfl) (by rfl) (fun w' hS => ?_) ?_
  · go_simp
  simp only [zA, zB, zC, Act.put, zD, zE, zF]
  refine wpScriptH_take (.int .i64 (k : Int)) (by rfl) (by rfl) (fun w' hS => ?_) ?_
  · go_simp
  simp only [zA, zB, zC, Act.put, zD, zE, zF]
  refine wpScriptH_take (.pointer (some ⟨gb, go + k, none⟩)) (by rfl) (by rfl) (fun w' hS => ?_) ?_
  · go_simp
  simp only [zA, zB, zC, Act.put, zD, zE, zF]
  refine wpScriptH_take (.int .u64 (b : Int)) (by rfl) (by rfl) (fun w' hS => ?_) ?_
  · go_simp
  simp only [zA, zB, zC, Act.put, zD, zE, zF]
  refine wpScriptH_take (.int .u64 (other : Int)) (by rfl) (by rfl) (fun w' hS => ?_) ?_
  · go_simp
  simp only [zA, zB, zC, Act.put, zD, zE, zF]
  refine wpScriptH_take (.slice (some ⟨gb, go, none⟩) m' c') (by rfl) (by rfl) (fun w' hS => ?_) ?_
  · go_simp
  simp only [zA, zB, zC, Act.put, zD, zE, zF]
  refine wpScriptH_take (.int .i64 (k : Int)) (by rfl) (by rfl) (fun w' hS => ?_) ?_
  · go_simp
  simp only [zA, zB, zC, Act.put, zD, zE, zF]
  refine wpScriptH_take (.pointer (some ⟨gb, go + k, none⟩)) (by rfl) (by rfl) (fun w' hS => ?_) ?_
  · go_simp
  simp only [zA, zB, zC, Act.put, zD, zE, zF]
  refine wpScriptH_take (.int .u64 (b : Int)) (by rfl) (by rfl) (fun w' hS => ?_) ?_
  · go_simp
  simp only [zA, zB, zC, Act.put, zD, zE, zF]
  refine wpScriptH_take (.int .i64 (j : Int)) (by rfl) (by rfl) (fun w' hS => ?_) ?_
  · go_simp
  simp only [zA, zB, zC, Act.put, zD, zE, zF]
  refine wpScriptH_take (.int .u64 (sm : Int)) (by rfl) (by rfl) (fun w' hS => ?_) ?_
  · go_simp
  simp only [zA, zB, zC, Act.put, zD, zE, zF]
  refine wpScriptH_do (by rfl) ?_
  go_wp2_with (go_at_call 24; refine (HA0.out _).mono ?_; rintro e w7 ⟨rfl, rfl⟩)
  refine ⟨fs6, ?_⟩
  refine wpScriptH_take (.agg #[.int .u64 (O1 : Int), .int .u64 (other : Int)]) (by rfl) (by rfl) (fun w' hS => ?_) ?_
  · go_simp
  simp only [zA, zB, zC, Act.put, zD, zE, zF]
  refine wpScriptH_do (by rfl) ?_
  go_wp2_with (go_at_call 24; refine (HAj.out _).mono ?_; rintro e w7 ⟨rfl, rfl⟩)
  refine ⟨fs6, ?_⟩
  refine wpScriptH_take (.agg #[.int .u64 (O2 : Int), .int .u64 (sm : Int)]) (by rfl) (by rfl) (fun w' hS => ?_) ?_
  · go_simp
  simp only [zA, zB, zC, Act.put, zD, zE, zF]
  refine wpScriptH_do (by rfl) ?_
  go_wp2_with fail
  refine ⟨fs7, ?_⟩
  refine wpScriptH_do (by rfl) ?_
  go_wp2_with (go_at_call 35; refine HEq.out.mono ?_; rintro e w8 ⟨rfl, hb8⟩; have HB8 := Lib.hid hb8; clear hb8)
  refine ⟨(HB8.out.cell (p := ⟨gb, go + k, none⟩) HGb.out).trans ((HB7.out.cell (p := ⟨gb, go + k, none⟩) HGb.out).symm.trans fs7), ?_⟩
  refine wpScriptH_take (.bool false) (by rfl) (by rfl) (fun w' hS => ?_) ?_
  · go_simp
  simp only [zA, zB, zC, Act.put, zD, zE, zF]
  refine wpScriptH_take (.bool false) (by rfl) (by rfl) (fun w' hS => ?_) ?_
  · go_simp
  simp only [zA, zB, zC, Act.put, zD, zE, zF]
  show wpList _ _ _ _ _ _
  simp only [List.drop_succ_cons, List.drop_zero]
  go_wp2_with fail
  refine NoPanic.normal ?_
  clear fs6 fs7 HEq HB7 HR6 HB6 hNj hNj2
  by_cases hlast : k + 1 = m'
  · have d1 : ((k : Int) + 1 == (m' : Int)) = true := by rw [beq_iff_eq]; omega
    clear hlast
    go_wp2_with fail
    go_ret
    exact ⟨rfl, HB3.out.trans (HB8.out.mono HB3.out.size)⟩
  · have d1 : ((k : Int) + 1 == (m' : Int)) = false := by rw [beq_eq_false_iff_ne]; omega
    clear m1 m4
    have hk1 : k + 1 < m' := by omega
    have hsub0 : 456 * (k + 1) ≤ k4 := nBlk_le k4 (k + 1) (by rw [← HM.out.2]; omega)
    have hsub1 : 456 * (k + 1) < k4 := nBlk_lt k4 (k + 1) (by rw [← HM.out.2]; omega) (by omega)
    obtain ⟨k1, o, hk1e, hoe, hok, HOi⟩ := lnk_ints k m' k4 hk1 hm5 hsub0 HK.out.1
    have HOe := Lib.hid (And.intro hoe hk1e)
    have d2 : ((k1 : Int) == (m' : Int)) = false := by rw [beq_eq_false_iff_ne]; omega
    have hco : ¬ c = o := by have := HK.out.2.1; omega
    have hk4 := HK.out.1
    have hkc := HK.out.2.1
    have hold2 : ∀ z, sfp S2 x z → w.heap.size ≤ z := fun z hz => by
      rcases hz with hz | hz
      · rcases HGr.out z hz with h1 | h1
        · exact HOld.out z (.inl h1)
        · exact Nat.le_trans HSz2.out h1
      · exact HOld.out z (.inr hz)
    have HOld2 := Lib.hid hold2
    have hb8 : Below w.heap.size w w8 := HB3.out.trans (HB8.out.mono HB3.out.size)
    have HPut2 := Lib.hid (putK_any (HBw.out.below HB8.out) (alW k4 [] (nBlk k4)) (by have h := HPp.out.cap; rw [HLn.out] at h; exact h) 1 (by omega) (subA A c o) (k4 - o) (c - o) (pl.drop o) ((reads_drop8 (HRt.out.below hb8) hok hkc).more hb8.size) (fun h0 ad h hs => by
      have h1 := hold2 _ hs
      obtain ⟨ad', hA', hb', _⟩ := HRt.out.2 (by omega)
      rw [hA'] at h
      unfold subA at h
      have h2 : ad.block = ad'.block := by
        split at h
        · injection h with h; rw [h]
        · rw [Option.map_some] at h
          injection h with h
          rw [← h]
          unfold Addr.add
          split <;> rfl
      omega) (fun z hz => HBt.out z (List.mem_of_mem_drop hz)) (by omega) (by omega) (by have := HIn.out.cap; omega) (by
      have h1 := room_le (alW (k4 - o) (alW k4 [] (nBlk k4)) (nBlk (k4 - o)))
      rw [alW_len, alW_len, List.length_nil] at h1
      have h2 := nBlk_sub k4 k (by rw [← HM.out.2]; omega)
      rw [hoe] at h2
      have h3 := HM.out.2
      omega) (by omega) (by have := HTT.out; omega))
    rw [show ((1 : Nat) : Int) = 1 from rfl, show subA A c o = A.map (·.add o) from if_neg hco] at HPut2
    clear hsub1 hoe hk1e hold2 hb8 hlast hsub0
    obtain ⟨⟨ho1, ho2, ho3, ho4, ho5, ho6⟩, ⟨ho7, ho8, ho9, ho10, ho11⟩, ho12, ho13⟩ := HOi.out
    go_wp2_with (go_at_call 14; refine HPut2.out.mono ?_; intro e w9 h9; obtain ⟨q2, A2, m2, c2, rfl, hall2⟩ := ret_putK h9; clear h9; refine stop ?_)
    unfold Stop
    clear ho1 ho2 ho3 ho4 ho5 ho6 ho7 ho8 ho9 ho10 ho11 ho12 ho13
    obtain ⟨bl2, cs3, f3, S3, cur3, hq2, hm2, hrd2, had2, hpp2, hbw3, hch3, hgr3, hmc2, hkp⟩ := hall2.out
    have hq64 : q2 < 18446744073709551616 := by rw [hq2]; exact hpp2.head64.1
    have HAll : Hid (∀ j (hj : j < bl.length), BkA 6 cs3 cur3 bl[j] (bl.getD (j + 1) 0) (pl.drop (456 * j)) ∧ pOff bl[j] ∉ bl2.map pOff) := Lib.hid (fun j hj => hkp.bk (HPp.out.bk j hj))
    have hkl : k < bl.length := by have := HM.out.1; omega
    have hb3 := (HAll.out k hkl).1
    rw [HX.out.1, HX.out.2.1, HX.out.2.2.1] at hb3
    have hld3 := hb3.load hbw3.sd.ds HX.out.2.2.2.2.2.2
    rw [HX.out.2.2.2.1] at hld3
    have HLk9 : Hid (∀ W, Below w9.heap.size w9 W → Calls Tryz.prog 33 #[.iface 37 (.pointer (some ⟨y.d, 0, none⟩)), .int .u64 (b : Int), .int .u64 (q2 : Int)] W (RetLk W b q2 L0)) := Lib.hid (fun W hW => link_any (hbw3.sd.below hW) b q2 pk.length L0 hld3.2.2.1 hld3.2.2.2 hq64 hld3.2.1 hld3.1)
    have hgb2 : ¬ sfp S2 x gb := (HAd.out ⟨gb, go, none⟩ rfl).2
    have hgb8 : gb < w8.heap.size := Nat.lt_of_lt_of_le HGb.out HB8.out.size
    have hgb3 : ¬ sfp S3 x gb := fun hz => by
      rcases hz with hz | hz
      · rcases hgr3 gb hz with h1 | h1
        · exact hgb2 (.inl h1)
        · omega
      · exact hgb2 (.inr hz)
    have hold3 : ∀ z, sfp S3 x z → w.heap.size ≤ z := fun z hz => by
      rcases hz with hz | hz
      · rcases hgr3 z hz with h1 | h1
        · exact HOld2.out z (.inl h1)
        · exact Nat.le_trans (HB3.out.trans (HB8.out.mono HB3.out.size)).size h1
      · exact HOld2.out z (.inr hz)
    have HB9 : Hid (Below w.heap.size w w9) := Lib.hid (by
      have h8 := HB3.out.trans (HB8.out.mono HB3.out.size)
      exact h8.trans (hch3.toBelow h8.size HOld2.out))
    have HRd9 : Hid (Reads w9 w9.heap.size 1 (some ⟨gb, go, none⟩) m' (uCells bl)) := Lib.hid ((hch3.reads ((HRd.out.below HB8.out).more HB8.out.size) (Nat.le_refl _) (fun ad h => by injection h with h; subst h; exact hgb2)).more hch3.size)
    obtain ⟨_, gb1, go1, hA31, _, fk9⟩ := u_facts HRd9.out (k := k) hkm
    injection hA31 with e1
    injection e1 with e1 e2
    subst e1 e2
    rw [HX.out.1] at fk9
    have HBw3 := Lib.hid hbw3
    have HPp2 := Lib.hid hpp2
    have HRm := Lib.hid hrd2
    have HAm := Lib.hid had2
    have HQ2 := Lib.hid (And.intro hq2 hm2)
    have HGb3 := Lib.hid (And.intro hgb3 (Nat.lt_of_lt_of_le hgb8 hch3.size))
    have HOld3 := Lib.hid hold3
    have HMc2 := Lib.hid hmc2
    have fs9 : w9.drew.cell? ⟨y.g, 3, none⟩ = some (.pointer (some ⟨y.d, 0, none⟩)) ∧ w9.drew.cell? ⟨gb, go + k, none⟩ = some (.int .u64 (b : Int)) := ⟨hbw3.blk.cell 3, fk9⟩
    have HL9 := Lib.hid (HLk9.out w9.drew (Below.refl _ _).drew)
    have HHq := Lib.hid hq64
    have hm5' : m2 ≤ 5 := by rw [hm2, hpp2.len, List.length_drop]; exact nBlk_few _ (by have := HLn.out; omega)
    clear hall2 hq2 hm2 hrd2 had2 hpp2 hbw3 hch3 hgr3 hmc2 hkp hb3 hld3 hgb2 hgb3 hgb8 hold3 fk9 HPut2 hkl HB8
    as_aux_lemma =>
      go_upto_region 21 with fail
      refine wp_region_scriptH (fun w' => w'.cell? ⟨y.g, 3, none⟩ = some (.pointer (some ⟨y.d, 0, none⟩)) ∧ w'.cell? ⟨gb, go + k, none⟩ = some (.int .u64 (b : Int))) 16 [] [(1, 0), (1, 1), (1, 2), (1, 3), (1, 4), (1, 5), (1, 6), (1, 7), (1, 8), (1, 9), (0, 10), (1, 11), (1, 12), (1, 13), (1, 14), (1, 15)] (by kernel_rfl) (by kernel_rfl) fs9 ?_
      refine wpScriptH_take (.pointer (some ⟨y.g, 0, none⟩)) (by rfl) (by rfl) (fun w' hS => ?_) ?_
      · go_simp
      simp only [zA, zB, Act.put, zD, zE, zF]
      refine wpScriptH_take (.pointer (some ⟨y.g, 0, none⟩)) (by rfl) (by rfl) (fun w' hS => ?_) ?_
      · go_simp
      simp only [zA, zB, zC, Act.put, zD, zE, zF]
      refine wpScriptH_take (.pointer (some ⟨y.g, 3, none⟩)) (by rfl) (by rfl) (fun w' hS => ?_) ?_
      · go_simp
      simp only [zA, zB, zC, Act.put, zD, zE, zF]
      refine wpScriptH_take (.pointer (some ⟨y.d, 0, none⟩)) (by rfl) (by rfl) (fun w' hS => ?_) ?_
      · obtain ⟨s1, s2⟩ := hS
        go_simp
      simp only [zA, zB, zC, Act.put, zD, zE, zF]
      refine wpScriptH_take (.iface 37 (.pointer (some ⟨y.d, 0, none⟩))) (by rfl) (by rfl) (fun w' hS => ?_) ?_
      · go_simp
      simp only [zA, zB, zC, Act.put, zD, zE, zF]
      refine wpScriptH_take (.slice (some ⟨gb, go, none⟩) m' c') (by rfl) (by rfl) (fun w' hS => ?_) ?_
      · go_simp
      simp only [zA, zB, zC, Act.put, zD, zE, zF]
      refine wpScriptH_take (.int .i64 (k : Int)) (by rfl) (by rfl) (fun w' hS => ?_) ?_
      · go_simp
      simp only [zA, zB, zC, Act.put, zD, zE, zF]
      refine wpScriptH_take (.pointer (some ⟨gb, go + k, none⟩)) (by rfl) (by rfl) (fun w' hS => ?_) ?_
      · go_simp
      simp only [zA, zB, zC, Act.put, zD, zE, zF]
      refine wpScriptH_take (.int .u64 (b : Int)) (by rfl) (by rfl) (fun w' hS => ?_) ?_
      · obtain ⟨s1, s2⟩ := hS
        go_simp
      simp only [zA, zB, zC, Act.put, zD, zE, zF]
      refine wpScriptH_take (.int .u64 (q2 : Int)) (by rfl) (by rfl) (fun w' hS => ?_) ?_
      · go_simp
      simp only [zA, zB, zC, Act.put, zD, zE, zF]
      refine wpScriptH_do (by rfl) ?_
      go_wp2_with (go_at_call 33; refine HL9.out.mono ?_; rintro e w10 ⟨g10, rfl, hr10, hg10, hb10⟩; have HR10 := Lib.hid hr10; have HB10' := Lib.hid hb10; clear hr10 hg10 hb10)
      have HB10 : Hid (Below w9.heap.size w9 w10) := Lib.hid ((Below.refl _ w9).drew.trans HB10'.out)
      have fs10 : w10.cell? ⟨y.g, 3, none⟩ = some (.pointer (some ⟨y.d, 0, none⟩)) ∧ w10.cell? ⟨gb, go + k, none⟩ = some (.int .u64 (b : Int)) := ⟨(HB10.out.cell (p := ⟨y.g, 3, none⟩) HBw3.out.blk.lt).trans fs9.1, (HB10.out.cell (p := ⟨gb, go + k, none⟩) HGb3.out.2).trans fs9.2⟩
      refine ⟨fs10, ?_⟩
      refine wpScriptH_take (.tuple #[.slice (some ⟨g10, 0, none⟩) 2 2, .int .i64 0]) (by rfl) (by rfl) (fun w' hS => ?_) ?_
      · go_simp
      simp only [zA, zB, zC, Act.put, zD, zE, zF]
      refine wpScriptH_take (.slice (some ⟨g10, 0, none⟩) 2 2) (by rfl) (by rfl) (fun w' hS => ?_) ?_
      · go_simp
      simp only [zA, zB, zC, Act.put, zD, zE, zF]
      refine wpScriptH_take (.int .i64 0) (by rfl) (by rfl) (fun w' hS => ?_) ?_
      · go_simp
      simp only [zA, zB, zC, Act.put, zD, zE, zF]
      refine wpScriptH_take (.slice (some ⟨g10, 0, none⟩) 2 2) (by rfl) (by rfl) (fun w' hS => ?_) ?_
      · go_simp
      simp only [zA, zB, zC, Act.put, zD, zE, zF]
      refine wpScriptH_take (.int .i64 0) (by rfl) (by rfl) (fun w' hS => ?_) ?_
      · go_simp
      simp only [zA, zB, zC, Act.put, zD, zE, zF]
      show wpList _ _ _ _ _ _
      simp only [List.drop_succ_cons, List.drop_zero]
      go_wp2_with fail
      refine NoPanic.normal ?_
      have hg3 : w10.drew.cell? ⟨y.g, 3, none⟩ = some (.pointer (some ⟨y.d, 0, none⟩)) := fs10.1
      have hkl : k < bl.length := by have := HM.out.1; omega
      have hbl5 : bl.length = m' := HM.out.1.symm
      obtain ⟨us, hus⟩ : ∃ us, linkW b q2 L0 = us := ⟨_, rfl⟩
      have hb3 := (HAll.out k hkl).1
      rw [HX.out.1, HX.out.2.1, HX.out.2.2.1] at hb3
      have HUo : Hid (UOk (53 + 32 * 6) 0 53 6 cs3 us) := Lib.hid (by
        have h := link_uok HBw3.out.sd.ds hb3 HHq.out
        rw [HX.out.2.2.2.1, hus] at h
        exact h)
      have HPb : Hid (Calls Tryz.prog 30 #[.pointer (some ⟨y.d, 0, none⟩), .slice (some ⟨g10, 0, none⟩) 2 2, .slice none 0 0, .slice (some ⟨gb, go + k1, none⟩) (m' - k1) (c' - k1)] w10.drew (RetPub a (53 + 32 * 6) (T + 4000 + 4000) 53 (32 * 6) 6 x cs3 f3 (0 + 20 + 20) 0 w1.heap.size S3 cur3 w10.drew y.d y.r us [] (bl.drop k1) 0)) := Lib.hid (by
        have hW := HB10.out.drew
        have hr1 := HRd9.out.below hW
        have hs := reads_sub hr1 (k := k1) (m := m') (by have := HOe.out.2; omega) (Nat.le_refl _) (by omega)
        rw [List.take_of_length_le (by omega)] at hs
        have hfr : ∀ p ∈ bl.drop k1, ∃ j, ∃ hj : j < bl.length, bl[j] = p := fun p hp => by
          have := List.mem_of_mem_drop hp
          obtain ⟨j, hj, e⟩ := List.getElem_of_mem this
          exact ⟨j, hj, e⟩
        have h0 := HR10.out
        rw [hus] at h0
        refine publishD (HBw3.out.sd.below hW) (by omega) (some ⟨g10, 0, none⟩) none (some ⟨gb, go + k1, none⟩) 2 2 0 0 (m' - k1) (c' - k1) us [] (bl.drop k1) h0 (fun h => by cases h) ⟨rfl, fun h => absurd h (Nat.lt_irrefl 0)⟩ (hs.more hW.size) (fun ad h => by cases h) (fun p hp => absurd hp (by simp)) (fun p hp => ?_) ?_ HUo.out ?_ (by have := HTT.out; omega) (by omega)
        · obtain ⟨j2, hj2, rfl⟩ := hfr p hp
          obtain ⟨k3, i3, h3, _⟩ := (HAll.out j2 hj2).1.live
          exact h3.freeOk
        · rw [List.nil_append, List.map_drop]
          exact HPp.out.nd.sublist (List.drop_sublist _ _)
        · rw [← hus]
          unfold linkW
          rw [List.length_drop]
          simp
          omega)
      have HTl : Hid (Calls Tryz.prog 30 #[.pointer (some ⟨y.d, 0, none⟩), .slice (some ⟨g10, 0, none⟩) 2 2, .slice none 0 0, .slice (some ⟨gb, go + k1, none⟩) (m' - k1) (c' - k1)] w10.drew fun e w11 => e = .returned (.int .i64 0) ∧ Hid (LnkT w w11 y.g y.d q gb go m' k1 A2 m2 bl bl2 pl)) := Lib.hid (HPb.out.mono (fun e w11 h => by
        obtain ⟨ks, V, cm, S4, he, hAO, hks, hcm, h96, hsd4, hch4, hgr4⟩ := h
        refine ⟨he, Lib.hid ?_⟩
        have hW := HB10.out.drew
        have hbw := HBw3.out.below hW
        have hc11 := hch4.toBelow (HB9.out.trans (hW.mono HB9.out.size)).size HOld3.out
        have hus2 : linkW bl[k] (bl2.headD 0) (payL (bl.getD (k + 1) 0) (pl.drop (456 * k))) = us := by
          rw [HX.out.1, HX.out.2.1, HX.out.2.2.1, HX.out.2.2.2.1, ← HQ2.out.1]
          exact hus
        have hk1 : k1 = k + 1 := HOe.out.2.symm
        have hlen : bl.length = nBlk pl.length := HPp.out.len
        have hpn : pl.length ≤ 2000 := by rw [HLn.out]; exact HK.out.1
        have hln2 : bl2.length = nBlk (pl.length - 456 * (k + 1)) := by rw [HPp2.out.len, List.length_drop, ← HOe.out.1]
        have hkk : k + 1 < bl.length := by omega
        have hC : Chain (53 + 32 * 6) (rdG 0 cur3 (us ++ ks.flatMap (acW 53 cs3 (tlOf 53 cs3 []) (dlOf 53 cs3 (bl.drop k1)) V)) cm) (fun q => chkR 53 6 (acC cs3 ks (tlOf 53 cs3 []) (dlOf 53 cs3 (bl.drop k1)) V) q 1) (bl.take k1 ++ bl2) pl := by
          rw [hk1] at hAO hsd4 h96 ⊢
          rw [← hus2] at hsd4 h96 ⊢
          exact links_chain HBw3.out.sd.ds hlen hpn hkk HAll.out HPp.out.nd hln2 (nBlk_sub _ _ (by rw [← hlen]; exact hkk)) (fun i hi => by
            have := HPp2.out.bk i hi
            rw [← HOe.out.1] at this
            exact this) (by rw [← HQ2.out.1]; exact HHq.out) hAO h96 hsd4.ds
        have hwk := chain_walk hC HBt.out hpn
        have hhd : (bl.take k1 ++ bl2).headD 0 = q := by
          rw [HQ.out, hk1]
          cases bl with
          | nil => simp at hkk
          | cons z t => rfl
        rw [hhd] at hwk
        have hq64 : q < 18446744073709551616 := by rw [HQ.out]; exact HPp.out.head64.1
        have h8 := HB9.out.trans (hW.mono HB9.out.size)
        refine ⟨⟨hbw.dirCell hch4, Nat.lt_of_lt_of_le hbw.blk.lt hch4.size⟩, h8.trans hc11, (hch4.reads ((HRd9.out.below hW).more hW.size) (Nat.le_refl _) (fun ad h => by injection h with h; subst h; exact HGb3.out.1)).more hch4.size, (hch4.reads ((HRm.out.below hW).more hW.size) (Nat.le_refl _) (fun ad h => (HAm.out ad h).2)).more hch4.size, fun W hW2 => ?_, fun W hW2 => ?_⟩
        · have h0 := bread_any (hsd4.below hW2) q hq64
          rw [hwk] at h0
          refine h0.mono (fun e w' h => ?_)
          unfold RetRd at h
          rw [if_pos rfl] at h
          obtain ⟨A, m, c, h1, h2, h3, h4, h5, h6⟩ := h
          exact ⟨A, m, c, h1, Lib.hid ⟨h3, h5, h6⟩⟩
        · have h0 := bblocks_any (hsd4.below hW2) q hq64
          rw [hwk] at h0
          refine h0.mono (fun e w' h => ?_)
          unfold RetBl at h
          rw [if_pos rfl] at h
          obtain ⟨A, m, c, h1, h2, h3, h4, h5⟩ := h
          exact ⟨A, m, c, h1, Lib.hid ⟨h2, h3, h4, h5⟩⟩))
      have hk1m : k1 ≤ m' := by have := HOe.out.2; omega
      have hkc1 : k1 ≤ c' := by have := HMc.out; omega
      have hck1 : ¬ c' = k1 := by have := HMc.out; have := HOe.out.2; omega
      have i1 : (k1 : Int) ≤ (m' : Int) := by omega
      have i2 : (0 : Int) ≤ (k1 : Int) := by omega
      have i3 : (m' : Int) ≤ (c' : Int) := by have := HMc.out; omega
      have HRdd := Lib.hid HRd.out
      clear HPb HUo hb3 hus hkl hbl5 HAll HRd9 HRm HAm HPp HPp2 HBw HBw3 HLk9 fs10 fs9
      as_aux_lemma =>
        go_upto_region 22 with fail
        refine wp_region_scriptH (fun w' => w'.cell? ⟨y.g, 3, none⟩ = some (.pointer (some ⟨y.d, 0, none⟩))) 15 [] [(1, 0), (1, 1), (1, 2), (1, 3), (1, 4), (1, 5), (1, 6), (1, 7), (1, 8), (1, 9), (1, 10), (1, 11), (0, 12), (1, 13), (1, 14)] (by kernel_rfl) (by kernel_rfl) hg3 ?_
        refine wpScriptH_take (.int .i64 0) (by rfl) (by rfl) (fun w' hS => ?_) ?_
        · go_simp
        simp only [zA, zB, Act.put, zD, zE, zF]
        refine wpScriptH_take (.bool false) (by rfl) (by rfl) (fun w' hS => ?_) ?_
        · go_simp
        simp only [zA, zB, zC, Act.put, zD, zE, zF]
        refine wpScriptH_take (.bool false) (by rfl) (by rfl) (fun w' hS => ?_) ?_
        · go_simp
        simp only [zA, zB, zC, Act.put, zD, zE, zF]
        refine wpScriptH_take (.pointer (some ⟨y.g, 0, none⟩)) (by rfl) (by rfl) (fun w' hS => ?_) ?_
        · go_simp
        simp only [zA, zB, zC, Act.put, zD, zE, zF]
        refine wpScriptH_take (.pointer (some ⟨y.g, 0, none⟩)) (by rfl) (by rfl) (fun w' hS => ?_) ?_
        · go_simp
        simp only [zA, zB, zC, Act.put, zD, zE, zF]
        refine wpScriptH_take (.pointer (some ⟨y.g, 3, none⟩)) (by rfl) (by rfl) (fun w' hS => ?_) ?_
        · go_simp
        simp only [zA, zB, zC, Act.put, zD, zE, zF]
        refine wpScriptH_take (.pointer (some ⟨y.d, 0, none⟩)) (by rfl) (by rfl) (fun w' hS => ?_) ?_
        · go_simp
        simp only [zA, zB, zC, Act.put, zD, zE, zF]
        refine wpScriptH_take (.slice (some ⟨g10, 0, none⟩) 2 2) (by rfl) (by rfl) (fun w' hS => ?_) ?_
        · go_simp
        simp only [zA, zB, zC, Act.put, zD, zE, zF]
        refine wpScriptH_take (.slice (some ⟨gb, go, none⟩) m' c') (by rfl) (by rfl) (fun w' hS => ?_) ?_
        · go_simp
        simp only [zA, zB, zC, Act.put, zD, zE, zF]
        refine wpScriptH_take (.int .i64 (k : Int)) (by rfl) (by rfl) (fun w' hS => ?_) ?_
        · go_simp
        simp only [zA, zB, zC, Act.put, zD, zE, zF]
        refine wpScriptH_take (.int .i64 (k1 : Int)) (by rfl) (by rfl) (fun w' hS => ?_) ?_
        · obtain ⟨⟨ho1, ho2, -, -, -, -⟩, ⟨-, -, -, ho10, -⟩, -, -⟩ := HOi.out
          go_simp
        simp only [zA, zB, zC, Act.put, zD, zE, zF]
        refine wpScriptH_take (.slice (some ⟨gb, go + k1, none⟩) (m' - k1) (c' - k1)) (by rfl) (by rfl) (fun w' hS => ?_) ?_
        · go_simp
        simp only [zA, zB, zC, Act.put, zD, zE, zF]
        refine wpScriptH_do (by rfl) ?_
        go_wp2_with (go_at_call 30; refine HTl.out.mono ?_; rintro e w11 ⟨rfl, htl⟩; have HTt := Lib.hid htl.out; clear htl)
        refine ⟨HTt.out.1.1, ?_⟩
        refine wpScriptH_take (.bool false) (by rfl) (by rfl) (fun w' hS => ?_) ?_
        · go_simp
        simp only [zA, zB, zC, Act.put, zD, zE, zF]
        refine wpScriptH_take (.bool false) (by rfl) (by rfl) (fun w' hS => ?_) ?_
        · go_simp
        simp only [zA, zB, zC, Act.put, zD, zE, zF]
        show wpList _ _ _ _ _ _
        simp only [List.drop_succ_cons, List.drop_zero]
        go_wp2_with fail
        refine NoPanic.normal ?_
        have hLt := HTt.out
        have hc11 : w11.cell? ⟨y.g, 3, none⟩ = some (.pointer (some ⟨y.d, 0, none⟩)) := hLt.1.1
        have HG11 := Lib.hid hLt.1.2
        have HB11 := Lib.hid hLt.2.1
        have HKe11 := Lib.hid hLt.2.2.1
        have HMo11 := Lib.hid hLt.2.2.2.1
        have HRc := Lib.hid (hLt.2.2.2.2.1 w11 (Below.refl _ _))
        have HBc := Lib.hid hLt.2.2.2.2.2
        have hk15 : k1 ≤ 5 := by omega
        clear hLt HTt HTl hg3
        go_wp2_with (go_at_call 25; refine HRc.out.mono ?_; rintro e w12 ⟨A12, m12, c12, rfl, hh12⟩; refine stop ?_)
        unfold Stop
        have HR12 := Lib.hid hh12.out.1
        have hm12 := hh12.out.2.1
        have HB12 := Lib.hid hh12.out.2.2
        have HBc2 := Lib.hid (HBc.out w12 HB12.out)
        have hc12 : w12.cell? ⟨y.g, 3, none⟩ = some (.pointer (some ⟨y.d, 0, none⟩)) := (HB12.out.cell (p := ⟨y.g, 3, none⟩) HG11.out).trans hc11
        clear hh12 HRc HBc hc11
        go_wp2_with (go_at_call 32; refine HBc2.out.mono ?_; rintro e w13 ⟨A13, m13, c13, rfl, hh13⟩; refine stop ?_)
        unfold Stop
        have hm13 := hh13.out.1
        have HR13 := Lib.hid hh13.out.2.1
        have hmc13 := hh13.out.2.2.1
        have HB13 := Lib.hid (HB12.out.trans (hh13.out.2.2.2.mono HB12.out.size))
        have HBw13 := Lib.hid (HB11.out.trans (HB13.out.mono HB11.out.size))
        have HEq := Lib.hid (bytesEq_same A12 A m12 c12 k4 c _ _ pl w13 (HR12.out.below hh13.out.2.2.2) (HRt.out.below HBw13.out) HBt.out)
        have hbl5 : bl.length = m' := HM.out.1.symm
        have HTk : Hid (Reads w13 w13.heap.size 1 (some ⟨gb, go, none⟩) k1 (uCells (bl.take k1))) := Lib.hid (by
          have h := reads_sub (HKe11.out.below HB13.out) (k := 0) (m := k1) (Nat.zero_le _) hk1m (by omega)
          rw [Nat.sub_zero, Nat.add_zero, List.drop_zero] at h
          exact h.more HB13.out.size)
        have HTm : Hid (Reads w13 w13.heap.size 1 A2 m2 (uCells bl2)) := Lib.hid ((HMo11.out.below HB13.out).more HB13.out.size)
        have hlen13 : m13 = k1 + m2 := by rw [hm13, List.length_append, List.length_take, hbl5, Nat.min_eq_left hk1m, ← HQ2.out.2]
        clear hh13 HBc2 hc12 HR12 HKe11 HMo11 HB12 HB13 hm13
        as_aux_lemma =>
          obtain ⟨i0, hi0, hz0, hz1, hz2⟩ := info_parts infoPtr
          have HQ1 := Lib.hid (app_room (n := 0) (m := k1) (by omega))
          have HQ2' := Lib.hid (app_room (n := k1) (m := m2) (by omega))
          have HKm := Lib.hid (show k1 + m2 ≤ 1000 by omega)
          subst hlen13
          obtain ⟨⟨ho1, ho2, -, -, -, -⟩, ⟨-, -, -, ho10, -⟩, -, -⟩ := HOi.out
          have HO0 := Lib.hid (own_empty w13 27)
          have HTk2 : Hid (Reads (w13.alloc (.cells #[] 27)) (w13.alloc (.cells #[] 27)).heap.size 1 (some ⟨gb, go, none⟩) k1 (uCells (bl.take k1))) := Lib.hid ((HTk.out.alloc (Nat.le_refl _) _).more (by simp))
          have HSa : Hid (w13.heap.size ≤ (w13.alloc (.cells #[] 27)).heap.size) := Lib.hid (by simp)
          clear HTk
          go_wp2_with (first
            | (go_at_call 26; refine HEq.out.mono ?_; rintro e w14 ⟨rfl, rfl⟩)
            | (at_builtin; refine wpList_app _ (.tmp 176) (.tmp 180) 28 rfl rfl w13.heap.size 27 i0 _ 1 8 Tryz.underlying28 hi0 hz0 hz1 hz2 rfl Nat.one_pos (.slice (some ⟨w13.heap.size, 0, none⟩) 0 0) 0 [] rfl HO0.out _ (some ⟨gb, go, none⟩) k1 c' (uCells (bl.take k1)) rfl HTk2.out (uCells_one _) HQ1.out.1 HQ1.out.2 HSa.out ?_; intro A3 n3 c3 w14 hn3 ho3 hg3 hb3; refine stop ?_))
          unfold Stop
          clear ho1 ho2 ho10
          have hn3' : n3 = k1 := hn3.trans (Nat.zero_add k1)
          clear hn3
          subst hn3'
          have hb14 : Below w13.heap.size w13 w14 := ((Below.refl _ w13).alloc (Nat.le_refl _) _).trans hb3
          have HO3 : Hid (w14.ownsRow w13.heap.size 27 1 (.slice A3 n3 c3) n3 (uCells (bl.take n3))) := Lib.hid (by simpa using ho3)
          have HB14 := Lib.hid hb14
          have HTm2 : Hid (Reads w14 w14.heap.size 1 A2 m2 (uCells bl2)) := Lib.hid ((HTm.out.below hb14).more hb14.size)
          have HS14 : Hid (w13.heap.size ≤ w14.heap.size) := Lib.hid hb14.size
          clear hb14 hb3 hg3 ho3 HTm HTk2 HO0
          go_wp2_with (at_builtin; refine wpList_app _ (.tmp 181) (.tmp 182) 28 rfl rfl w13.heap.size 27 i0 _ 1 8 Tryz.underlying28 hi0 hz0 hz1 hz2 rfl Nat.one_pos (.slice A3 n3 c3) n3 (uCells (bl.take n3)) rfl HO3.out _ A2 m2 c2 (uCells bl2) rfl HTm2.out (uCells_one _) HQ2'.out.1 HQ2'.out.2 HS14.out ?_; intro A4 n4 c4 w15 hn4 ho4 hg4 hb4; refine stop ?_)
          unfold Stop
          have hb15 := HB14.out.trans hb4
          subst hn4
          have HEp := Lib.hid (equP_same A13 A4 (n3 + m2) c13 c4 (bl.take n3 ++ bl2) w15 ((HR13.out.below hb15).more hb15.size) (by
            have h := Reads.of_own ho4
            have e : uCells (bl.take n3) ++ uCells bl2 = uCells (bl.take n3 ++ bl2) := by simp [uCells]
            rw [e] at h
            exact h) HKm.out)
          have HBz := Lib.hid (HBw13.out.trans (hb15.mono HBw13.out.size))
          clear hb15 ho4 hg4 hb4 HTm2 HO3
          go_wp2_with (go_at_call 36; refine HEp.out.mono ?_; rintro e w16 ⟨rfl, hb16⟩; have HB16 := Lib.hid hb16; clear hb16)
          go_ret
          exact ⟨rfl, HBz.out.trans (HB16.out.mono HBz.out.size)⟩
end Go.Proofs.YtpihhlbfpbngaaaGreatDoor
