/- The walk of the law CrcDetects. -/
import Derived.Test.YtkpfciacfajddaaDoorLawE
import Derived.Test.YtkpfciacfajddaaDoorPlainD
namespace Go.Proofs.YtkpfciacfajddaaDoor
open Go.RowKit

set_option maxHeartbeats 2000000 in
theorem crcDetects_core (A : Option Addr) (n cap m : Nat) (l : List Nat) (bit : Int) (pat : Nat) (w : World) (hin : In w A m cap l) (hm : m ≤ 200) (ht : Tab w) (hb1 : -9223372036854775808 ≤ bit) (hb2 : bit ≤ 9223372036854775807) (hp : pat < 4294967296)
    (s1 s2 : Nat) (v v' : Bool) (h1 : ((s1 : Int) != (s2 : Int)) = v) (hv : v' = !v) (e1 : Crc.sum (Crc.burst l bit pat 32) = s1) (e2 : Crc.sum l = s2) (e3 : decide (Crc.burst l bit pat 32 = l) = v')
    (hcut : Calls Tryd.prog 13 #[.slice A n cap, .int .i64 200] w fun e w' => e = .returned (.slice A m cap) ∧ w = w') :
    Calls Tryd.prog 10 #[.slice A n cap, .int .i64 bit, .int .u32 pat] w fun e w' => e = .returned (.bool true) ∧ Below w.heap.size w w' := by
  have HI := Lib.hid hin
  have HT := Lib.hid ht
  have HC := Lib.hid hcut
  have HLen := Lib.hid hin.len
  have HE1 := Lib.hid e1
  have HE2 := Lib.hid e2
  have HE3 := Lib.hid e3
  have HBy := Lib.hid (Crc.burst_bytes hin.bytes bit pat 32)
  have HBl := Lib.hid (show (Crc.burst l bit pat 32).length = m by rw [Crc.burst_len]; exact HLen.out)
  clear hin ht hcut e1 e2 e3
  subst hv
  cases v
  all_goals
    go_enter Tryd.func10, Tryd.ntmps10
    go_wp2_with (go_at_call 13; refine HC.out.mono ?_; rintro e w' ⟨rfl, rfl⟩)
    refine (burst_any A m cap l bit pat w HI.out hm hb1 hb2 hp).mono ?_
    rintro e w2 ⟨rfl, hblk2, hb4⟩
    have HB2 := Lib.hid hb4
    have HK2 := Lib.hid hblk2
    clear hb4 hblk2
    go_wp2_with fail
    refine (awake_any w2 (HT.out.below HT.out.size HB2.out)).mono ?_
    rintro e w3 ⟨rfl, hb5⟩
    have HB3 := Lib.hid (HB2.out.trans (hb5.mono HB2.out.size))
    have HK3 := Lib.hid (blk_reads (HK2.out.below hb5 HK2.out.lt) HBl.out)
    have HT3 := Lib.hid (HT.out.below HT.out.size HB3.out)
    have HR3 := Lib.hid (HI.out.reads.below HB3.out)
    clear hb5
    go_wp2_with fail
    have h6 := sum_any _ m m _ _ w3 HBy.out HK3.out (by omega) HT3.out
    rw [HE1.out] at h6
    refine h6.mono ?_
    clear h6
    rintro e w' ⟨rfl, rfl⟩
    go_wp2_with fail
    have h7 := sum_any A m cap _ l w3 HI.out.bytes HR3.out (by omega) HT3.out
    rw [HE2.out] at h7
    refine h7.mono ?_
    clear h7
    rintro e w' ⟨rfl, rfl⟩
    go_wp2_with fail
    refine (same_any _ A m m m cap _ _ _ _ w3 HBy.out HI.out.bytes HK3.out HR3.out _ HE3.out).mono ?_
    rintro e w' ⟨rfl, rfl⟩
    go_wp2
    go_ret
    exact ⟨rfl, HB3.out⟩
theorem crcDetects_walk (A : Option Addr) (n cap : Nat) (l : List Nat) (bit : Int) (a : Int) (w : World) (hin : In w A n cap l) (wb : (Lit.int .i64 bit).wf = true) (wa : (Lit.int .u32 a).wf = true) (ht : Tab w) :
    Calls Tryd.prog 10 #[.slice A n cap, .int .i64 bit, .int .u32 a] w fun e w' => e = .returned (.bool true) ∧ Below w.heap.size w w' := by
  obtain ⟨h0, h1⟩ := bounds_u32 wa
  obtain ⟨h2, h3⟩ := bounds_i64 wb
  obtain ⟨c, rfl⟩ := Int.eq_ofNat_of_zero_le h0
  refine crcDetects_core A n cap _ _ bit c w (hin.cut 200) (by omega) ht h2 h3 (by omega) _ _ _ _ rfl ?_ rfl rfl rfl (cut_any A n cap 200 w hin.le hin.cap (by omega))
  have hl := (hin.cut 200).bytes
  generalize l.take 200 = l' at *
  by_cases h : Crc.burst l' bit c 32 = l'
  · rw [h]; simp
  · have hs : Crc.sum (Crc.burst l' bit c 32) ≠ Crc.sum l' := fun e => h (Crc.detects l' hl bit c e)
    have hs' : ((Crc.sum (Crc.burst l' bit c 32) : Nat) : Int) ≠ ((Crc.sum l' : Nat) : Int) := by omega
    rw [decide_eq_false h, bne_iff_ne.2 hs']; rfl
end Go.Proofs.YtkpfciacfajddaaDoor
