/- The walks of the laws CrcUpdates, CrcSplits, CrcResidue. -/
import Derived.Test.YtkpfciacfajddaaDoorLawA
import Derived.Test.YtkpfciacfajddaaDoorPlainB
import Derived.OpenShut
namespace Go.Proofs.YtkpfciacfajddaaDoor
open Go.RowKit

set_option maxHeartbeats 1000000 in
theorem crcUpdates_core (c : Nat) (hc : c < 4294967296) (A : Option Addr) (n cap m : Nat) (l : List Nat) (w : World) (hin : In w A m cap l) (hm : m ≤ 300) (ht : Tab w)
    (hcut : Calls Tryd.prog 13 #[.slice A n cap, .int .i64 300] w fun e w' => e = .returned (.slice A m cap) ∧ w = w') :
    Calls Tryd.prog 4 #[.int .u32 c, .slice A n cap] w fun e w' => e = .returned (.bool true) ∧ Below w.heap.size w w' := by
  have HI := Lib.hid hin
  have HT := Lib.hid ht
  have HC := Lib.hid hcut
  clear hin ht hcut
  go_enter Tryd.func4, Tryd.ntmps4
  go_wp2_with (go_at_call 13; refine HC.out.mono ?_; rintro e w' ⟨rfl, rfl⟩)
  refine (awake_any w HT.out).mono ?_
  rintro e w2 ⟨rfl, hb2⟩
  have HB2 := Lib.hid hb2
  have HT2 := Lib.hid (HT.out.below HT.out.size hb2)
  clear hb2
  go_wp2_with fail
  refine (update_any c hc A m cap _ l w2 HI.out.bytes (HI.out.reads.below HB2.out) (by omega) HT2.out).mono ?_
  rintro e w' ⟨rfl, rfl⟩
  go_wp2_with fail
  refine (refUpdate_any c hc A m cap _ l w2 HI.out.bytes (HI.out.reads.below HB2.out) (by omega)).mono ?_
  rintro e w' ⟨rfl, m3, rfl⟩
  go_wp2_with fail
  have h5 := update_any c hc none 0 0 0 [] (w2.drewN m3) (fun _ h => by cases h) Reads.none_ (by omega) (HT2.out.keep fun _ _ => rfl)
  rw [Crc.update_nil] at h5
  refine h5.mono ?_
  rintro e w' ⟨rfl, rfl⟩
  clear h5
  go_wp2
  go_ret
  exact ⟨rfl, below_drewN HB2.out _⟩
theorem crcUpdates_walk (a : Int) (A : Option Addr) (n cap : Nat) (l : List Nat) (w : World) (wa : (Lit.int .u32 a).wf = true) (hin : In w A n cap l) (ht : Tab w) :
    Calls Tryd.prog 4 #[.int .u32 a, .slice A n cap] w fun e w' => e = .returned (.bool true) ∧ Below w.heap.size w w' := by
  obtain ⟨h0, h1⟩ := bounds_u32 wa
  obtain ⟨c, rfl⟩ := Int.eq_ofNat_of_zero_le h0
  exact crcUpdates_core c (by omega) A n cap _ _ w (hin.cut 300) (by omega) ht (cut_any A n cap 300 w hin.le hin.cap (by omega))

set_option maxHeartbeats 1000000 in
theorem crcSplits_core (A A2 : Option Addr) (n cap m n2 cap2 m2 : Nat) (l l2 : List Nat) (w : World) (hin : In w A m cap l) (hin2 : In w A2 m2 cap2 l2) (hm : m ≤ 200) (hm2 : m2 ≤ 200) (ht : Tab w)
    (hcut : Calls Tryd.prog 13 #[.slice A n cap, .int .i64 200] w fun e w' => e = .returned (.slice A m cap) ∧ w = w')
    (hcut2 : Calls Tryd.prog 13 #[.slice A2 n2 cap2, .int .i64 200] w fun e w' => e = .returned (.slice A2 m2 cap2) ∧ w = w') :
    Calls Tryd.prog 5 #[.slice A n cap, .slice A2 n2 cap2] w fun e w' => e = .returned (.bool true) ∧ Below w.heap.size w w' := by
  have HI := Lib.hid hin
  have HI2 := Lib.hid hin2
  have HT := Lib.hid ht
  have HC := Lib.hid hcut
  have HC2 := Lib.hid hcut2
  clear hin hin2 ht hcut hcut2
  go_enter Tryd.func5, Tryd.ntmps5
  go_wp2_with fail
  refine HC.out.mono ?_
  rintro e w' ⟨rfl, rfl⟩
  go_wp2_with fail
  refine HC2.out.mono ?_
  rintro e w' ⟨rfl, rfl⟩
  go_wp2_with fail
  refine (awake_any w HT.out).mono ?_
  rintro e w2 ⟨rfl, hb2⟩
  have HB2 := Lib.hid hb2
  have HT2 := Lib.hid (HT.out.below HT.out.size hb2)
  clear hb2
  go_wp2_with fail
  refine (sum_any A m cap _ l w2 HI.out.bytes (HI.out.reads.below HB2.out) (by omega) HT2.out).mono ?_
  rintro e w' ⟨rfl, rfl⟩
  go_wp2_with fail
  have h5 := update_any _ (Crc.sum_lt HI.out.bytes) A2 m2 cap2 _ l2 w2 HI2.out.bytes (HI2.out.reads.below HB2.out) (by omega) HT2.out
  rw [Crc.update_sum] at h5
  refine h5.mono ?_
  rintro e w' ⟨rfl, rfl⟩
  clear h5
  have hsz := HB2.out.size
  go_wp2_with (first
    | (at_builtin; refine wpList_app _ (.tmp 15) (.tmp 16) rfl rfl w2.heap.size _ 0 [] rfl (own_empty w2) w.heap.size A m cap l rfl ((HI.out.reads.below HB2.out).alloc hsz _) (by omega) (by simp) ?_; intro A3 n3 c3 w3 ho3 _ hn3 hb3)
    | (at_builtin; refine wpList_app _ (.tmp 17) (.tmp 18) rfl rfl w2.heap.size _ _ _ rfl ho3 w.heap.size A2 m2 cap2 l2 rfl (((HI2.out.reads.below HB2.out).alloc hsz _).below (hb3.mono hsz)) (by omega) (Nat.le_trans (by simp) hb3.size) ?_; intro A4 n4 c4 w4 _ hr4 hn4 hb4))
  have HB4 := Lib.hid (((Below.refl w2.heap.size w2).alloc (Nat.le_refl _) _).trans (hb3.trans hb4))
  have HR4 := Lib.hid hr4
  clear hb4 hr4 hb3 ho3
  have HB5 := Lib.hid (HB2.out.trans (HB4.out.mono hsz))
  refine (sum_any A4 n4 c4 _ (l ++ l2) w4 ?_ HR4.out (by omega) (HT.out.below HT.out.size HB5.out)).mono ?_
  · intro b hb
    rcases List.mem_append.1 hb with h | h
    · exact HI.out.bytes b h
    · exact HI2.out.bytes b h
  rintro e w' ⟨rfl, rfl⟩
  go_wp2
  go_ret
  exact ⟨rfl, HB5.out⟩
theorem crcSplits_walk (A : Option Addr) (n cap : Nat) (l : List Nat) (A2 : Option Addr) (n2 cap2 : Nat) (l2 : List Nat) (w : World) (hin : In w A n cap l) (hin2 : In w A2 n2 cap2 l2) (ht : Tab w) :
    Calls Tryd.prog 5 #[.slice A n cap, .slice A2 n2 cap2] w fun e w' => e = .returned (.bool true) ∧ Below w.heap.size w w' :=
  crcSplits_core A A2 n cap _ n2 cap2 _ _ _ w (hin.cut 200) (hin2.cut 200) (by omega) (by omega) ht (cut_any A n cap 200 w hin.le hin.cap (by omega)) (cut_any A2 n2 cap2 200 w hin2.le hin2.cap (by omega))

theorem row_reads (w : World) (l : List Nat) (o : Obj) (ho : o = .cells (u8s l).toArray 5) : Reads (w.alloc o) (w.heap.size + 1) 1 (some ⟨w.heap.size, 0, none⟩) l.length (u8s l) := by
  subst ho
  refine ⟨by simp [u8s], fun _ => ⟨_, rfl, by show w.heap.size < _; omega, fun j u hu => ?_⟩⟩
  have ha : (⟨w.heap.size, 0, none⟩ : Addr).add j = ⟨w.heap.size, j, none⟩ := by unfold Addr.add; split <;> simp_all
  have hh : (w.alloc (.cells (u8s l).toArray 5)).heap[w.heap.size]? = some (.cells (u8s l).toArray 5 (0, 0)) := heap_alloc_new w _
  rw [ha, cell_of_row _ _ _ _ _ _ hh]
  simpa using hu
theorem wrap_byte (s : Nat) : IntKind.u8.wrap (s : Int) = ((s % 256 : Nat) : Int) := by rw [IntKind.wrap_u8']; omega
set_option maxHeartbeats 1000000 in
theorem crcResidue_core (A : Option Addr) (n cap m s b0 b1 b2 b3 : Nat) (l : List Nat) (w : World) (hin : In w A m cap l) (hm : m ≤ 300) (ht : Tab w)
    (hcut : Calls Tryd.prog 13 #[.slice A n cap, .int .i64 300] w fun e w' => e = .returned (.slice A m cap) ∧ w = w')
    (hsum : Calls Tryd.prog 15 #[.slice A m cap] w fun e w' => e = .returned (.int .u32 (s : Int)) ∧ w = w')
    (e0 : IntKind.u8.wrap (s : Int) = (b0 : Int)) (e1 : IntKind.u8.wrap ((s : Int) / 256) = (b1 : Int)) (e2 : IntKind.u8.wrap ((s : Int) / 65536) = (b2 : Int)) (e3 : IntKind.u8.wrap ((s : Int) / 16777216) = (b3 : Int))
    (_hs : s < 4294967296) (hfin : ∀ (A' : Option Addr) (n' c' : Nat) (w' : World), Reads w' w'.heap.size 1 A' n' (u8s (l ++ [b0, b1, b2, b3])) → n' ≤ 1000 → Tab w' → Calls Tryd.prog 15 #[.slice A' n' c'] w' fun e w'' => e = .returned (.int .u32 1214729159) ∧ w' = w'') :
    Calls Tryd.prog 7 #[.slice A n cap] w fun e w' => e = .returned (.bool true) ∧ Below w.heap.size w w' := by
  have HI := Lib.hid hin
  have HT := Lib.hid ht
  have HC := Lib.hid hcut
  have HS := Lib.hid hsum
  have HF := Lib.hid hfin
  clear hin ht hcut hsum hfin
  go_enter Tryd.func7, Tryd.ntmps7
  go_wp2_with (first
    | (go_at_call 13; refine HC.out.mono ?_; rintro e w' ⟨rfl, rfl⟩)
    | (go_at_call 15; refine HS.out.mono ?_; rintro e w' ⟨rfl, rfl⟩)
    | (at_builtin; refine wpList_app _ (.tmp 9) (.tmp 10) rfl rfl w.heap.size _ 0 [] rfl (own_empty w) w.heap.size A m cap l rfl (HI.out.reads.alloc (Nat.le_refl _) _) (by omega) (by simp) ?_; intro A1 n1 c1 w1 ho1 _ hn1 hb1)
    | (at_builtin; refine wpList_app _ (.tmp 11) (.tmp 23) rfl rfl w.heap.size _ _ _ rfl (ho1.alloc _) _ (some ⟨w1.heap.size, 0, none⟩) 4 4 [b0, b1, b2, b3] rfl (row_reads w1 [b0, b1, b2, b3] _ rfl) (by omega) (Nat.le_trans (Nat.le_trans (by simp) hb1.size) (by simp)) ?_; intro A4 n4 c4 w4 _ hr4 hn4 hb4))
  have hb1' := ((Below.refl w.heap.size w).alloc (Nat.le_refl _) _).trans hb1
  have HB4 := Lib.hid ((hb1'.alloc hb1'.size _).trans hb4)
  have HR4 := Lib.hid hr4
  clear hb4 hr4 hb1 ho1 hb1'
  have HT4 := Lib.hid (HT.out.below HT.out.size HB4.out)
  refine (awake_any w4 HT4.out).mono ?_
  rintro e w5 ⟨rfl, hb5⟩
  have HB5 := Lib.hid (HB4.out.trans (hb5.mono HB4.out.size))
  have HR5 := Lib.hid ((HR4.out.below hb5).more hb5.size)
  clear hb5
  go_wp2_with fail
  refine (HF.out A4 n4 c4 w5 HR5.out (by omega) (HT.out.below HT.out.size HB5.out)).mono ?_
  rintro e w' ⟨rfl, rfl⟩
  go_wp2
  go_ret
  exact ⟨rfl, HB5.out⟩
theorem crcResidue_walk (A : Option Addr) (n cap : Nat) (l : List Nat) (w : World) (hin : In w A n cap l) (ht : Tab w) :
    Calls Tryd.prog 7 #[.slice A n cap] w fun e w' => e = .returned (.bool true) ∧ Below w.heap.size w w' := by
  have hin' := hin.cut 300
  have hs := Crc.sum_lt hin'.bytes
  generalize hl' : l.take 300 = l' at *
  refine crcResidue_core A n cap (min n 300) (Crc.sum l') (Crc.sum l' % 256) (Crc.sum l' / 256 % 256) (Crc.sum l' / 65536 % 256) (Crc.sum l' / 16777216 % 256) l' w hin' (by omega) ht (cut_any A n cap 300 w hin.le hin.cap (by omega))
    (sum_any A _ cap _ l' w hin'.bytes hin'.reads (by omega) ht) (wrap_byte _) ?_ ?_ ?_ hs ?_
  · rw [show ((Crc.sum l' : Nat) : Int) / 256 = ((Crc.sum l' / 256 : Nat) : Int) by omega]; exact wrap_byte _
  · rw [show ((Crc.sum l' : Nat) : Int) / 65536 = ((Crc.sum l' / 65536 : Nat) : Int) by omega]; exact wrap_byte _
  · rw [show ((Crc.sum l' : Nat) : Int) / 16777216 = ((Crc.sum l' / 16777216 : Nat) : Int) by omega]; exact wrap_byte _
  · intro A' n' c' w' hr hn' ht'
    have h := sum_any A' n' c' _ _ w' ?_ hr (by omega) ht'
    · rw [show l' ++ [Crc.sum l' % 256, Crc.sum l' / 256 % 256, Crc.sum l' / 65536 % 256, Crc.sum l' / 16777216 % 256] = l' ++ Crc.le4 (Crc.sum l') from rfl, Crc.residue l' hin'.bytes] at h
      exact h
    · intro b hb
      rcases List.mem_append.1 hb with h | h
      · exact hin'.bytes b h
      · simp only [List.mem_cons, List.not_mem_nil, or_false] at h
        omega
end Go.Proofs.YtkpfciacfajddaaDoor
