/- The walk of the law CrcLinear. -/
import Derived.Test.YtkpfciacfajddaaDoorLawB
import Derived.Deep.RegionHeld3
import Derived.Laws.MakeOwn
namespace Go.Proofs.YtkpfciacfajddaaDoor
open Go.RowKit

theorem run_make_rowN {P : Program} (t e : TypeId) (i : TypeInfo) (z : Value) (ht : P.underlying t = some (.slice e)) (hi : P.info? e = some i) (hz : i.zero = some z)
    (kl kc : IntKind) (n c : Nat) (hnc : n ≤ c) (hbytes : i.bytes * c ≤ 281474976710656) (h63 : c ≤ 9223372036854775807) (w : World) :
    (Instr.makeSlice t (.int kl (n : Int)) (.int kc (c : Int))).run P w = .ok (.slice (some ⟨w.heap.size, 0, none⟩) n c) (w.alloc (.cells (madeCells z.cells (c * i.size)) e)) := by
  have hb : (i.bytes : Int) * (c : Int) ≤ 281474976710656 := by
    have h : ((i.bytes * c : Nat) : Int) ≤ 281474976710656 := by omega
    rwa [Int.natCast_mul] at h
  have hr := run_make (P := P) w t e i z ht hi hz kl kc n c (by omega) (by omega) hb (by omega)
  simp only [Int.toNat_natCast] at hr
  exact hr
theorem made_zero (k : Nat) (a : Array Value) (ha : a = (Value.int .u8 0).cells) : madeCells a k = (u8s (List.replicate k 0)).toArray := by
  subst ha
  apply Array.ext
  · simp [size_madeCells, u8s]
  · intro i h1 h2
    simp [madeCells, u8s, Value.cells, Nat.mod_one]
theorem make_bytes (k : Nat) (hk : k ≤ 1000000) (w : World) : (Instr.makeSlice 22 (.int .i64 (k : Int)) (.int .i64 (k : Int))).run Tryd.prog w = .ok (.slice (some ⟨w.heap.size, 0, none⟩) k k) (w.alloc (.cells (u8s (List.replicate k 0)).toArray 5)) := by
  obtain ⟨i0, hi0, hz0, hz1, hz2⟩ := info_parts u8_info
  have h := run_make_rowN 22 5 i0 _ Tryd.underlying22 hi0 hz0 .i64 .i64 k k (Nat.le_refl _) (by rw [hz2]; omega) (by omega) w
  rw [hz1, Nat.mul_one, made_zero k _ rfl] at h
  exact h
/-- A world in which all that was there in w is as it was. -/
def Aft (w : World) : Type := { w' : World // Below w.heap.size w w' }
def Aft.at_ {w : World} (x : Aft w) : World := x.1
theorem Aft.below {w : World} (x : Aft w) : Below w.heap.size w x.at_ := x.2
instance (w : World) : Nonempty (Aft w) := ⟨⟨w, Below.refl _ _⟩⟩
/-- A region that draws its order, walked once in the order of the text: whatever its operations and callees make, what was there stays. -/
theorem wp_region_after_lit {P : Program} {id : Nat} {Q : Exit → Act → World → Prop} {a : Act} {w : World} {l : List Oper} (hm : P.follows .mixedOrders = true) (hB : Region.lexB .any l.toArray = true)
    (h : wpQuiet P l.toArray (fun w' => ∃ x : Aft w, w' = x.at_) (fun a' => ∀ w', (∃ x : Aft w, w' = x.at_) → Q .normal a' w') l a) : (Code.region id l.toArray true).wp P Q a w :=
  wp_region_quiet (C := fun w' => ∃ x : Aft w, w' = x.at_) hm hB ⟨⟨w.drew, (Below.refl _ _).drew⟩, rfl⟩ (by simpa using h)
theorem after_same {P : Program} {f : FuncId} {args : Array Value} {w : World} {x : Aft w} {v : Value} (h : Calls P f args x.at_ fun e w' => e = .returned v ∧ x.at_ = w') :
    Calls P f args x.at_ fun e w'' => e = .returned v ∧ ∃ y : Aft w, w'' = y.at_ := h.mono fun _ _ ⟨he, hw⟩ => ⟨he, x, hw.symm⟩
theorem after_below {P : Program} {f : FuncId} {args : Array Value} {w : World} {x : Aft w} {v : Value} (h : Calls P f args x.at_ fun e w' => e = .returned v ∧ Below x.at_.heap.size x.at_ w') :
    Calls P f args x.at_ fun e w'' => e = .returned v ∧ ∃ y : Aft w, w'' = y.at_ := h.mono fun _ w' ⟨he, hw⟩ => ⟨he, ⟨w', x.below.trans (hw.mono x.below.size)⟩, rfl⟩
/-- After j rounds. -/
def lin (x y z : List Nat) (k j : Nat) : List Nat := (List.zipWith (· ^^^ ·) (List.zipWith (· ^^^ ·) x y) z).take j ++ List.replicate (k - j) 0
theorem lin_len (x y z : List Nat) (k j : Nat) (hj : j ≤ k) (hx : k ≤ x.length) (hy : k ≤ y.length) (hz : k ≤ z.length) : (lin x y z k j).length = k := by
  simp [lin]; omega
theorem lin_step (x y z : List Nat) (k j : Nat) (h0 : j < x.length) (h1 : j < y.length) (h2 : j < z.length) (hj : j < k) (hx : k ≤ x.length) (hy : k ≤ y.length) (hz : k ≤ z.length) :
    (u8s (lin x y z k j)).toArray.setIfInBounds j (.int .u8 ((x[j] ^^^ y[j] ^^^ z[j] : Nat) : Int)) = (u8s (lin x y z k (j + 1))).toArray := by
  have e : (lin x y z k j).set j (x[j] ^^^ y[j] ^^^ z[j]) = lin x y z k (j + 1) := by
    apply List.ext_getElem
    · rw [List.length_set, lin_len x y z k j (by omega) hx hy hz, lin_len x y z k (j + 1) (by omega) hx hy hz]
    · intro i hi1 hi2
      rw [List.getElem_set]
      have hl : (List.zipWith (· ^^^ ·) (List.zipWith (· ^^^ ·) x y) z).length = min (min x.length y.length) z.length := by simp
      by_cases hij : j = i
      · subst hij
        simp only [if_true, lin]
        rw [List.getElem_append_left (by simp; omega)]
        simp
      · simp only [hij, if_false, lin]
        by_cases hlt : i < j
        · rw [List.getElem_append_left (by simp; omega), List.getElem_append_left (by simp; omega)]
          simp
        · rw [List.getElem_append_right (by simp; omega), List.getElem_append_right (by simp; omega)]
          simp
  rw [← e]
  simp [u8s, List.map_set]
theorem u8_xor2 (a b c : Nat) (ha : a < 256) (hb : b < 256) (hc : c < 256) : bits .xor .u8 (a : Int) (b : Int) = ((a ^^^ b : Nat) : Int) ∧ bits .xor .u8 ((a ^^^ b : Nat) : Int) (c : Int) = ((a ^^^ b ^^^ c : Nat) : Int) :=
  ⟨u8_xor_nat a b ha hb, u8_xor_nat _ c (Nat.xor_lt_two_pow (n := 8) ha hb) hc⟩

theorem linear_calls (A0 A1 A2 : Option Addr) (n0 n1 n2 c0 c1 c2 k : Nat) (l0 l1 l2 : List Nat) (w wr : World) (hin0 : In w A0 n0 c0 l0) (hin1 : In w A1 n1 c1 l1) (hin2 : In w A2 n2 c2 l2) (hk : k ≤ 200) (ht : Tab w)
    (k0 : k ≤ n0) (k1 : k ≤ n1) (k2 : k ≤ n2) (hb : Below w.heap.size w wr) (hblk : Blk wr w.heap.size 5 (u8s (lin l0 l1 l2 k k)).toArray) :
    ∃ s0 s1 s2 x01 x : Nat, (∀ y : Aft wr, Calls Tryd.prog 14 #[] y.at_ fun e w' => e = .returned (.bool true) ∧ ∃ z : Aft wr, w' = z.at_) ∧
      (∀ y : Aft wr, Calls Tryd.prog 15 #[.slice A0 k c0] y.at_ fun e w'' => e = .returned (.int .u32 (s0 : Int)) ∧ ∃ z : Aft wr, w'' = z.at_) ∧
      (∀ y : Aft wr, Calls Tryd.prog 15 #[.slice A1 k c1] y.at_ fun e w'' => e = .returned (.int .u32 (s1 : Int)) ∧ ∃ z : Aft wr, w'' = z.at_) ∧
      (∀ y : Aft wr, Calls Tryd.prog 15 #[.slice A2 k c2] y.at_ fun e w'' => e = .returned (.int .u32 (s2 : Int)) ∧ ∃ z : Aft wr, w'' = z.at_) ∧
      (∀ y : Aft wr, Calls Tryd.prog 15 #[.slice (some ⟨w.heap.size, 0, none⟩) k k] y.at_ fun e w'' => e = .returned (.int .u32 (x : Int)) ∧ ∃ z : Aft wr, w'' = z.at_) ∧
      bits .xor .u32 (s0 : Int) (s1 : Int) = (x01 : Int) ∧ bits .xor .u32 (x01 : Int) (s2 : Int) = (x : Int) := by
  have b0 : ∀ y : Aft wr, Below w.heap.size w y.at_ := fun y => hb.trans (y.below.mono hb.size)
  have t0 : ∀ y : Aft wr, Tab y.at_ := fun y => ht.below ht.size (b0 y)
  have r : ∀ {A : Option Addr} {n c : Nat} {l : List Nat}, In w A n c l → k ≤ n → ∀ y : Aft wr, Reads y.at_ w.heap.size 1 A k (u8s (l.take k)) := by
    intro A n c l h hk y
    have h1 := (h.cut k).reads.below (b0 y)
    rwa [Nat.min_eq_right hk] at h1
  have bb : ∀ {A : Option Addr} {n c : Nat} {l : List Nat}, In w A n c l → ∀ b ∈ l.take k, b < 256 := fun h b hb' => (h.cut k).bytes b hb'
  have hlen0 := hin0.len
  have hlen1 := hin1.len
  have hlen2 := hin2.len
  have elin : lin l0 l1 l2 k k = List.zipWith (· ^^^ ·) (List.zipWith (· ^^^ ·) (l0.take k) (l1.take k)) (l2.take k) := by
    simp [lin, List.take_zipWith]
  have hlb : ∀ b ∈ lin l0 l1 l2 k k, b < 256 := by
    rw [elin]
    intro b hbm
    obtain ⟨i, hi, rfl⟩ := List.getElem_of_mem hbm
    simp only [List.length_zipWith] at hi
    rw [List.getElem_zipWith, List.getElem_zipWith]
    exact Nat.xor_lt_two_pow (n := 8) (Nat.xor_lt_two_pow (n := 8) (bb hin0 _ (List.getElem_mem _)) (bb hin1 _ (List.getElem_mem _))) (bb hin2 _ (List.getElem_mem _))
  have rlin : ∀ y : Aft wr, Reads y.at_ (w.heap.size + 1) 1 (some ⟨w.heap.size, 0, none⟩) k (u8s (lin l0 l1 l2 k k)) := by
    intro y
    have hbl := hblk.below y.below hblk.lt
    refine ⟨by simp only [u8s, List.length_map]; rw [lin_len _ _ _ _ _ (Nat.le_refl _) (by omega) (by omega) (by omega)]; omega, fun _ => ⟨_, rfl, by show w.heap.size < _; omega, fun j u hu => ?_⟩⟩
    have ha : (⟨w.heap.size, 0, none⟩ : Addr).add j = ⟨w.heap.size, j, none⟩ := by unfold Addr.add; split <;> simp_all
    rw [ha, hbl.cell j]
    simpa using hu
  have hx := Crc.linear (l0.take k) (l1.take k) (l2.take k) (by simp; omega) (by simp; omega)
  refine ⟨Crc.sum (l0.take k), Crc.sum (l1.take k), Crc.sum (l2.take k), Crc.sum (l0.take k) ^^^ Crc.sum (l1.take k), Crc.sum (lin l0 l1 l2 k k), ?_, ?_, ?_, ?_, ?_, ?_, ?_⟩
  · exact fun y => after_below (awake_any y.at_ (t0 y))
  · exact fun y => after_same (sum_any A0 k c0 _ _ y.at_ (bb hin0) (r hin0 k0 y) (by omega) (t0 y))
  · exact fun y => after_same (sum_any A1 k c1 _ _ y.at_ (bb hin1) (r hin1 k1 y) (by omega) (t0 y))
  · exact fun y => after_same (sum_any A2 k c2 _ _ y.at_ (bb hin2) (r hin2 k2 y) (by omega) (t0 y))
  · exact fun y => after_same (sum_any _ k k _ _ y.at_ hlb (rlin y) (by omega) (t0 y))
  · exact u32_xor_nat _ _ (Crc.sum_lt (bb hin0)) (Crc.sum_lt (bb hin1))
  · rw [elin, ← hx]
    exact u32_xor_nat _ _ (Crc.xor_lt (Crc.sum_lt (bb hin0)) (Crc.sum_lt (bb hin1))) (Crc.sum_lt (bb hin2))
set_option maxHeartbeats 1000000 in
theorem crcLinear_core (A0 A1 A2 : Option Addr) (n0 n1 n2 c0 c1 c2 k : Nat) (l0 l1 l2 : List Nat) (w : World) (hin0 : In w A0 n0 c0 l0) (hin1 : In w A1 n1 c1 l1) (hin2 : In w A2 n2 c2 l2) (hk : k ≤ 200) (ht : Tab w)
    (k0 : k ≤ n0) (k1 : k ≤ n1) (k2 : k ≤ n2)
    (hmin : (Builtin.min_ #[3, 3, 3, 3] 3 #[.int .i64 n0, .int .i64 n1, .int .i64 n2, .int .i64 200]).run Tryd.prog w = .ok (.int .i64 k) w) :
    Calls Tryd.prog 6 #[.slice A0 n0 c0, .slice A1 n1 c1, .slice A2 n2 c2] w fun e w' => e = .returned (.bool true) ∧ Below w.heap.size w w' := by
  have HI0 := Lib.hid hin0
  have HI1 := Lib.hid hin1
  have HI2 := Lib.hid hin2
  have HT := Lib.hid ht
  have hmk := make_bytes k (by omega) w
  have HB0 := Lib.hid ((Below.refl w.heap.size w).alloc (Nat.le_refl _) (.cells (u8s (List.replicate k 0)).toArray 5))
  have HK0 := Lib.hid (Blk.new w 5 (u8s (List.replicate k 0)).toArray)
  clear hin0 hin1 hin2 ht
  generalize w.alloc (.cells (u8s (List.replicate k 0)).toArray 5) = w1 at *
  go_enter Tryd.func6, Tryd.ntmps6
  go_wp2
  go_loopw [21] (fun i wr => ∃ j : Nat, j ≤ k ∧ i = .int .i64 j ∧ Hid (Below w.heap.size w wr) ∧ Hid (Blk wr w.heap.size 5 (u8s (lin l0 l1 l2 k j)).toArray)) (fun i _ => k - (intOf i).toNat)
  case atStart => exact ⟨0, Nat.zero_le _, rfl, HB0, by simpa [lin] using HK0⟩
  case round =>
    obtain ⟨j, hj, rfl, hb, hblk⟩ := hrel
    by_cases hlt : j < k
    · obtain ⟨ad0, u0, hA0, _, hu0, hcell0⟩ := (HI0.out.reads.below hb.out).at_ (show j < n0 by omega)
      obtain ⟨ad1, u1, hA1, _, hu1, hcell1⟩ := (HI1.out.reads.below hb.out).at_ (show j < n1 by omega)
      obtain ⟨ad2, u2, hA2, _, hu2, hcell2⟩ := (HI2.out.reads.below hb.out).at_ (show j < n2 by omega)
      subst hA0 hA1 hA2
      obtain ⟨hk0, rfl⟩ := u8s_at hu0
      obtain ⟨hk1, rfl⟩ := u8s_at hu1
      obtain ⟨hk2, rfl⟩ := u8s_at hu2
      obtain ⟨e1, e2⟩ := u8_xor2 _ _ _ (HI0.out.bytes _ (List.getElem_mem hk0)) (HI1.out.bytes _ (List.getElem_mem hk1)) (HI2.out.bytes _ (List.getElem_mem hk2))
      have hfz := hblk.out.frozen j
      obtain ⟨vg, hcg⟩ : ∃ v, wr.cell? ⟨w.heap.size, j, none⟩ = some v := by
        rw [hblk.out.cell j]
        exact ⟨_, Array.getElem?_eq_getElem (by simp [u8s, lin]; have := HI0.out.len; have := HI1.out.len; have := HI2.out.len; omega)⟩
      have HS := Lib.hid (lin_step l0 l1 l2 k j hk0 hk1 hk2 hlt (by rw [HI0.out.len]; exact k0) (by rw [HI1.out.len]; exact k1) (by rw [HI2.out.len]; exact k2))
      generalize l0[j] ^^^ l1[j] ^^^ l2[j] = xr at *
      generalize l0[j] ^^^ l1[j] = xs at *
      generalize l0[j] = x0 at *
      generalize l1[j] = x1 at *
      generalize l2[j] = x2 at *
      clear hu0 hu1 hu2
      go_wp2
      go_region
      go_wp2
      go_roundw
      case rel => exact ⟨j + 1, by omega, by go_num, (hb.out.setCell (p := ⟨w.heap.size, j, none⟩) (Nat.le_refl _) _).drew, by have h := (hblk.out.set_ j (.int .u8 (xr : Int))).drew; rw [HS.out] at h; exact h⟩
      case measure => simp [intOf]; omega
    · have hjk : j = k := by omega
      subst hjk
      have HW := Lib.hid (linear_calls A0 A1 A2 n0 n1 n2 c0 c1 c2 j l0 l1 l2 w wr HI0.out HI1.out HI2.out hk HT.out k0 k1 k2 hb.out hblk.out)
      have hc0 := HI0.out.le
      have hc1 := HI1.out.le
      have hc2 := HI2.out.le
      go_wp2
      obtain ⟨s0, s1, s2, x01, x, haw, h0, h1, h2, h3, e1, e2⟩ := HW.out
      clear HW
      have H0 := Lib.hid h0
      have H1 := Lib.hid h1
      have H2 := Lib.hid h2
      have H3 := Lib.hid h3
      have HAW := Lib.hid haw
      clear h0 h1 h2 h3 haw
      refine wp_region_after_lit (by kernel_rfl) (by kernel_rfl) ?_
      repeat (go_big_quiet_step (first
        | (go_at_call 14; exact HAW.out _)
        | (go_at_call_of 15 (Value.slice A0 j c0); exact H0.out _)
        | (go_at_call_of 15 (Value.slice A1 j c1); exact H1.out _)
        | (go_at_call_of 15 (Value.slice A2 j c2); exact H2.out _)
        | (go_at_call_of 15 (Value.slice (some ⟨w.heap.size, 0, none⟩) j j); exact H3.out _)))
      refine wpQuiet_nil ?_
      rintro _ ⟨x, rfl⟩
      go_wp2
      go_ret
      exact ⟨rfl, hb.out.trans (x.below.mono hb.out.size)⟩
theorem min4 (a b c d : Int) (w : World) : (Builtin.min_ #[3, 3, 3, 3] 3 #[.int .i64 a, .int .i64 b, .int .i64 c, .int .i64 d]).run Tryd.prog w = .ok (.int .i64 (min (min (min a b) c) d)) w := by
  have e : ∀ x y : Int, (if y < x then y else x) = min x y := fun x y => by omega
  simp [Builtin.min_, Builtin.min2, e]
theorem crcLinear_walk (A0 : Option Addr) (n0 c0 : Nat) (l0 : List Nat) (A1 : Option Addr) (n1 c1 : Nat) (l1 : List Nat) (A2 : Option Addr) (n2 c2 : Nat) (l2 : List Nat) (w : World)
    (hin0 : In w A0 n0 c0 l0) (hin1 : In w A1 n1 c1 l1) (hin2 : In w A2 n2 c2 l2) (ht : Tab w) :
    Calls Tryd.prog 6 #[.slice A0 n0 c0, .slice A1 n1 c1, .slice A2 n2 c2] w fun e w' => e = .returned (.bool true) ∧ Below w.heap.size w w' := by
  refine crcLinear_core A0 A1 A2 n0 n1 n2 c0 c1 c2 (min (min (min n0 n1) n2) 200) l0 l1 l2 w hin0 hin1 hin2 (by omega) ht (by omega) (by omega) (by omega) ?_
  rw [min4]
  congr 2
  omega
end Go.Proofs.YtkpfciacfajddaaDoor
