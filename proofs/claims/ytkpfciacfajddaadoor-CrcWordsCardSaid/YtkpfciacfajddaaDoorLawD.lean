/- The walks of crc.Words, the reference's Bytes and Words, and of the law CrcWords. -/
import Derived.Test.YtkpfciacfajddaaDoorLawB
namespace Go.Proofs.YtkpfciacfajddaaDoor
open Go.RowKit

namespace Crc
/-- The first j bytes of a word, the lowest first. -/
def le (w : Nat) : Nat → List Nat
  | 0 => []
  | j + 1 => le w j ++ [w / 256 ^ j % 256]
def wbytes (ws : List Nat) : List Nat := ws.flatMap fun w => le w 8
theorem wbytes_snoc (ws : List Nat) (w : Nat) : wbytes (ws ++ [w]) = wbytes ws ++ le w 8 := by simp [wbytes]
theorem le_bytes (w j : Nat) : ∀ b ∈ le w j, b < 256 := by
  induction j with
  | zero => intro b hb; cases hb
  | succ j ih =>
    intro b hb
    rcases List.mem_append.1 hb with h | h
    · exact ih b h
    · simp only [List.mem_cons, List.not_mem_nil, or_false] at h
      omega
theorem wbytes_bytes (ws : List Nat) : ∀ b ∈ wbytes ws, b < 256 := by
  intro b hb
  obtain ⟨w, _, hw⟩ := List.mem_flatMap.1 hb
  exact le_bytes w 8 b hw
theorem le_len (w j : Nat) : (le w j).length = j := by
  induction j with
  | zero => rfl
  | succ j ih => simp [le, ih]
theorem wbytes_len (ws : List Nat) : (wbytes ws).length = 8 * ws.length := by
  induction ws with
  | nil => rfl
  | cons w ws ih => simp only [wbytes, List.flatMap_cons, List.length_append, le_len, List.length_cons] at *; omega
end Crc

def u64s (l : List Nat) : List Value := l.map fun (b : Nat) => Value.int .u64 (b : Int)
theorem u64s_at {l : List Nat} {k : Nat} {u : Value} (h : (u64s l)[k]? = some u) : ∃ hk : k < l.length, u = .int .u64 ((l[k] : Nat) : Int) := by
  simp only [u64s, List.getElem?_map, Option.map_eq_some_iff] at h
  obtain ⟨a, ha, rfl⟩ := h
  obtain ⟨hk, rfl⟩ := List.getElem?_eq_some_iff.1 ha
  exact ⟨hk, rfl⟩
structure InW (w : World) (A : Option Addr) (n cap : Nat) (l : List Nat) : Prop where
  words : ∀ b ∈ l, b < 18446744073709551616
  reads : Reads w w.heap.size 1 A n (u64s l)
  le : n ≤ cap
  cap : cap ≤ 9223372036854775807
theorem InW.len {w : World} {A : Option Addr} {n cap : Nat} {l : List Nat} (h : InW w A n cap l) : l.length = n := by have := h.reads.1; simpa [u64s] using this
theorem InW.cut {w : World} {A : Option Addr} {n cap : Nat} {l : List Nat} (h : InW w A n cap l) (k : Nat) : InW w A (min n k) cap (l.take k) :=
  ⟨fun b hb => h.words b (List.mem_of_mem_take hb), by rw [show u64s (l.take k) = (u64s l).take k by simp [u64s]]; exact h.reads.take_ k, by have := h.le; omega, h.cap⟩

theorem wrap_byte64 (s : Nat) : IntKind.u8.wrap (s : Int) = ((s % 256 : Nat) : Int) := by rw [IntKind.wrap_u8']; omega
set_option maxHeartbeats 1000000 in
theorem words_any (A : Option Addr) (n cap B : Nat) (l : List Nat) (w : World) (hl : ∀ b ∈ l, b < 18446744073709551616) (hrd : Reads w B 1 A n (u64s l)) (hn : n ≤ 1000) (ht : Tab w) :
    Calls Tryd.prog 20 #[.slice A n cap] w fun e w' => e = .returned (.int .u32 ((Crc.sum (Crc.wbytes l) : Nat) : Int)) ∧ w = w' := by
  have HN := Lib.hid (show l.length = n by have := hrd.1; simpa [u64s] using this)
  have HT := Lib.hid ht
  have HL := Lib.hid hl
  have HR := Lib.hid hrd
  clear ht hl hrd
  obtain ⟨x0, hx0⟩ : ∃ x0 : Nat, x0 = 4294967295 := ⟨_, rfl⟩
  have e0 : (x0 : Int) = 4294967295 := by omega
  have b0 : x0 < 4294967296 := by omega
  have hsg : IntKind.u32.signed = false := rfl
  have HX := Lib.hid hx0
  have HX0 := Lib.hid e0
  clear hx0 e0
  go_enter Tryd.func20, Tryd.ntmps20
  go_wp2
  go_loop [3, 8] (fun r i => ∃ k : Nat, k ≤ n ∧ i = .int .i64 k ∧ r = .int .u32 ((Crc.reg x0 (Crc.wbytes (l.take k)) : Nat) : Int)) (fun _ i => n - (intOf i).toNat)
  case atStart => exact ⟨0, Nat.zero_le _, rfl, by show _ = Value.int IntKind.u32 (x0 : Int); rw [HX0.out]⟩
  case round =>
    obtain ⟨k, hk, rfl, rfl⟩ := hrel
    have hreg : Crc.reg x0 (Crc.wbytes (l.take k)) < 4294967296 := Crc.reg_lt b0 (Crc.wbytes_bytes _)
    by_cases hlt : k < n
    · obtain ⟨ad, u, hA, _, hu, hcell⟩ := HR.out.at_ hlt
      obtain ⟨hkl, rfl⟩ := u64s_at hu
      have HS : Hid (Crc.reg (Crc.reg x0 (Crc.wbytes (l.take k))) (Crc.le l[k] 8) = Crc.reg x0 (Crc.wbytes (l.take (k + 1)))) := by
        show _ = _
        rw [take_snoc l k hkl, Crc.wbytes_snoc, Crc.reg_append]
      have hb : l[k] < 18446744073709551616 := HL.out _ (List.getElem_mem hkl)
      clear hu
      subst hA
      generalize l[k] = b at *
      generalize hr : Crc.reg x0 (Crc.wbytes (l.take k)) = r at *
      have HRr := Lib.hid hr
      clear hr
      go_wp2
      go_loop [3, 5, 12] (fun q v i => ∃ j : Nat, j ≤ 8 ∧ i = .int .i64 j ∧ v = .int .u64 ((b / 256 ^ j : Nat) : Int) ∧ q = .int .u32 ((Crc.reg r (Crc.le b j) : Nat) : Int)) (fun _ _ i => 8 - (intOf i).toNat)
      case atStart => exact ⟨0, Nat.zero_le _, rfl, by simp, rfl⟩
      case round =>
        obtain ⟨j, hj, rfl, rfl, rfl⟩ := hrel
        have hq : Crc.reg r (Crc.le b j) < 4294967296 := Crc.reg_lt hreg (Crc.le_bytes b j)
        have hv : b / 256 ^ j < 18446744073709551616 := Nat.lt_of_le_of_lt (Nat.div_le_self _ _) hb
        have wv := wrap_byte64 (b / 256 ^ j)
        have HQ : Hid (Crc.step (Crc.reg r (Crc.le b j)) (b / 256 ^ j % 256) = Crc.reg r (Crc.le b (j + 1))) := by
          show _ = _
          rw [Crc.le, Crc.reg_snoc]
        have HV : Hid (b / 256 ^ j / 256 = b / 256 ^ (j + 1)) := by
          show _ = _
          rw [Nat.div_div_eq_div_mul, Nat.pow_succ]
        by_cases hj8 : j < 8
        · have hbyte : b / 256 ^ j % 256 < 256 := Nat.mod_lt _ (by omega)
          generalize b / 256 ^ j % 256 = y at *
          generalize b / 256 ^ j = v at *
          generalize hqq : Crc.reg r (Crc.le b j) = q at *
          have HQQ := Lib.hid hqq
          clear hqq
          go_wp2_with (go_at_call 28; refine (step_any _ _ hq hbyte _ HT.out).mono ?_; rintro e w' ⟨rfl, rfl⟩)
          go_round
          case rel => exact ⟨j + 1, by omega, by go_num, by rw [← HV.out]; go_num, by rw [HQ.out]⟩
          case measure => simp [intOf]; omega
        · have HE : Hid (Crc.reg r (Crc.le b j) = Crc.reg x0 (Crc.wbytes (l.take (k + 1)))) := by
            show _ = _
            rw [← HS.out, show j = 8 by omega]
          clear wv
          generalize Crc.reg r (Crc.le b j) = q at *
          generalize b / 256 ^ j = v at *
          go_wp2
          go_round
          case rel => exact ⟨k + 1, by omega, by go_num, by rw [HE.out]⟩
          case measure => simp [intOf]; omega
    · have HE : Hid (Crc.reg x0 (Crc.wbytes (l.take k)) ^^^ Crc.ones = Crc.sum (Crc.wbytes l)) := by
        show _ = _
        rw [List.take_of_length_le (by have := HN.out; omega), HX.out, Crc.sum_eq]
      have e9 := u32_not _ hreg
      generalize Crc.reg x0 (Crc.wbytes (l.take k)) ^^^ Crc.ones = z at *
      generalize Crc.reg x0 (Crc.wbytes (l.take k)) = r at *
      go_wp2
      go_ret
      exact ⟨by rw [← HE.out]; rfl, rfl⟩

/-- A slice of the call's own that holds these bytes. -/
def Own (w : World) (base : Nat) (v : Value) (l : List Nat) : Prop := ∃ (A : Option Addr) (n c : Nat), v = .slice A n c ∧ n = l.length ∧ w.ownsRow base 5 1 (.slice A n c) n (u8s l)
theorem Own.mk_ {w : World} {base : Nat} {A : Option Addr} {n c : Nat} {l : List Nat} (h : w.ownsRow base 5 1 (.slice A n c) n (u8s l)) : Own w base (.slice A n c) l :=
  ⟨A, n, c, rfl, by have := h.1; simpa [u8s] using this.symm, h⟩
set_option maxHeartbeats 1000000 in
theorem bytes_any (A : Option Addr) (n cap : Nat) (l : List Nat) (w : World) (hl : ∀ b ∈ l, b < 18446744073709551616) (hrd : Reads w w.heap.size 1 A n (u64s l)) (hn : n ≤ 1000) :
    Calls Tryd.prog 22 #[.slice A n cap] w fun e w' => ∃ (A' : Option Addr) (n' c' : Nat), e = .returned (.slice A' n' c') ∧ Reads w' w'.heap.size 1 A' n' (u8s (Crc.wbytes l)) ∧ n' ≤ 8000 ∧ Below w.heap.size w w' := by
  have HN := Lib.hid (show l.length = n by have := hrd.1; simpa [u64s] using this)
  have HL := Lib.hid hl
  have HR := Lib.hid hrd
  clear hl hrd
  go_enter Tryd.func22, Tryd.ntmps22
  go_wp2
  go_loopw [3, 10] (fun v i wr => ∃ k : Nat, k ≤ n ∧ i = .int .i64 k ∧ Hid (Own wr w.heap.size v (Crc.wbytes (l.take k))) ∧ Hid (Below w.heap.size w wr)) (fun _ i _ => n - (intOf i).toNat)
  case atStart => exact ⟨0, Nat.zero_le _, rfl, Own.mk_ (own_empty w), (Below.refl _ _).alloc (Nat.le_refl _) _⟩
  case round =>
    obtain ⟨k, hk, rfl, hO, hB⟩ := hrel
    by_cases hlt : k < n
    · obtain ⟨ad, u, hA, _, hu, hcell⟩ := (HR.out.below hB.out).at_ hlt
      obtain ⟨hkl, rfl⟩ := u64s_at hu
      have HS : Hid (Crc.wbytes (l.take k) ++ Crc.le l[k] 8 = Crc.wbytes (l.take (k + 1))) := by
        show _ = _
        rw [take_snoc l k hkl, Crc.wbytes_snoc]
      have hb : l[k] < 18446744073709551616 := HL.out _ (List.getElem_mem hkl)
      have hwl : (Crc.wbytes (l.take k)).length ≤ 8 * k := by rw [Crc.wbytes_len]; simp; omega
      clear hu
      subst hA
      generalize l[k] = b at *
      generalize Crc.wbytes (l.take k) = m at *
      obtain ⟨wo, rfl⟩ : ∃ wo : World, wo = wr := ⟨_, rfl⟩
      go_wp2
      go_loopw [3, 5, 6] (fun v x i wr => ∃ j : Nat, j ≤ 8 ∧ i = .int .i64 j ∧ x = .int .u64 ((b / 256 ^ j : Nat) : Int) ∧ Hid (Own wr w.heap.size v (m ++ Crc.le b j)) ∧ Hid (Below w.heap.size w wr)) (fun _ _ i _ => 8 - (intOf i).toNat)
      case atStart => exact ⟨0, Nat.zero_le _, rfl, by simp, by simpa [Crc.le] using hO, hB⟩
      case round =>
        obtain ⟨j, hj, rfl, rfl, hO2, hB2⟩ := hrel
        have hv : b / 256 ^ j < 18446744073709551616 := Nat.lt_of_le_of_lt (Nat.div_le_self _ _) hb
        have wv := wrap_byte64 (b / 256 ^ j)
        have HQ : Hid (m ++ Crc.le b j ++ [b / 256 ^ j % 256] = m ++ Crc.le b (j + 1)) := by
          show _ = _
          rw [Crc.le, List.append_assoc]
        have HV : Hid (b / 256 ^ j / 256 = b / 256 ^ (j + 1)) := by
          show _ = _
          rw [Nat.div_div_eq_div_mul, Nat.pow_succ]
        by_cases hj8 : j < 8
        · obtain ⟨A3, n3, c3, hv3, hn3, ho3⟩ := hO2.out
          have hlen : n3 ≤ 8 * 1000 + 8 := by rw [hn3, List.length_append, Crc.le_len]; omega
          have HO3 := Lib.hid ho3
          clear hn3 ho3 hO2
          subst hv3
          generalize b / 256 ^ j % 256 = y at *
          generalize b / 256 ^ j = v at *
          have hsz := hB2.out.size
          go_wp2_with (at_builtin; refine wpList_app _ (.tmp 18) (.tmp 21) rfl rfl w.heap.size _ _ _ rfl (HO3.out.alloc _) _ (some ⟨wr.heap.size, 0, none⟩) 1 1 [y] rfl (row_reads wr [y] _ rfl) (by omega) (Nat.le_trans hsz (by simp)) ?_; intro A4 n4 c4 w4 ho4 _ hn4 hb4)
          have HO4 := Lib.hid (Own.mk_ ho4)
          have HB4 := Lib.hid ((hB2.out.alloc hsz _).trans hb4)
          clear ho4 hb4
          rw [HQ.out] at HO4
          go_wp2
          go_roundw
          case rel => exact ⟨j + 1, by omega, by go_num, by rw [← HV.out]; go_num, HO4, HB4⟩
          case measure => simp [intOf]; omega
        · have HE : Hid (m ++ Crc.le b j = Crc.wbytes (l.take (k + 1))) := by
            show _ = _
            rw [← HS.out, show j = 8 by omega]
          have HO3 : Hid (Own wr w.heap.size u3 (Crc.wbytes (l.take (k + 1)))) := by rw [← HE.out]; exact hO2
          clear wv
          generalize b / 256 ^ j = v at *
          go_wp2
          go_roundw
          case rel => exact ⟨k + 1, by omega, by go_num, HO3, hB2⟩
          case measure => simp [intOf]; omega
    · obtain ⟨A3, n3, c3, hv3, hn3, ho3⟩ := hO.out
      have HE : Hid (Crc.wbytes (l.take k) = Crc.wbytes l) := by
        show _ = _
        rw [List.take_of_length_le (by have := HN.out; omega)]
      have hlen : n3 ≤ 8000 := by rw [hn3, Crc.wbytes_len]; simp; omega
      have HO3 : Hid (Reads wr wr.heap.size 1 A3 n3 (u8s (Crc.wbytes l))) := by rw [← HE.out]; exact Reads.of_own ho3
      clear hn3 ho3 hO
      subst hv3
      go_wp2
      go_ret
      exact ⟨A3, n3, c3, rfl, HO3.out, hlen, hB.out⟩
set_option maxHeartbeats 1000000 in
theorem refWords_any (A : Option Addr) (n cap : Nat) (l : List Nat) (w : World) (hl : ∀ b ∈ l, b < 18446744073709551616) (hrd : Reads w w.heap.size 1 A n (u64s l)) (hn : n ≤ 1000) :
    Calls Tryd.prog 21 #[.slice A n cap] w fun e w' => e = .returned (.int .u32 ((Crc.sum (Crc.wbytes l) : Nat) : Int)) ∧ Below w.heap.size w w' := by
  have HC := Lib.hid (bytes_any A n cap l w hl hrd hn)
  clear hl hrd
  go_enter Tryd.func21, Tryd.ntmps21
  go_wp2_with fail
  refine HC.out.mono ?_
  rintro e w1 ⟨A1, n1, c1, rfl, hr1, hn1, hb1⟩
  have HR1 := Lib.hid hr1
  have HB1 := Lib.hid hb1
  clear hr1 hb1
  go_wp2_with fail
  refine (refSum_any A1 n1 c1 _ _ w1 (Crc.wbytes_bytes l) HR1.out (by omega)).mono ?_
  rintro e w2 ⟨rfl, m, rfl⟩
  go_wp2
  go_ret
  exact ⟨rfl, below_drewN HB1.out _⟩
set_option maxHeartbeats 1000000 in
theorem crcWords_core (A : Option Addr) (n cap m : Nat) (l : List Nat) (w : World) (hin : InW w A m cap l) (hm : m ≤ 60) (ht : Tab w) (hn : n ≤ cap) (hcap : cap ≤ 9223372036854775807) (hmn : (n ≤ 60 ∧ m = n) ∨ (60 < n ∧ m = 60)) :
    Calls Tryd.prog 8 #[.slice A n cap] w fun e w' => e = .returned (.bool true) ∧ Below w.heap.size w w' := by
  have HI := Lib.hid hin
  have HT := Lib.hid ht
  clear hin ht
  rcases hmn with ⟨h1, rfl⟩ | ⟨h1, rfl⟩
  all_goals
    go_enter Tryd.func8, Tryd.ntmps8
    go_wp2_with fail
    refine (awake_any w HT.out).mono ?_
    rintro e w2 ⟨rfl, hb2⟩
    have HB2 := Lib.hid hb2
    have HT2 := Lib.hid (HT.out.below HT.out.size hb2)
    have HR2 := Lib.hid ((HI.out.reads.below hb2).more hb2.size)
    clear hb2
    go_wp2_with fail
    refine (words_any A _ cap _ l w2 HI.out.words HR2.out (by omega) HT2.out).mono ?_
    rintro e w' ⟨rfl, rfl⟩
    go_wp2_with fail
    refine (refWords_any A _ cap l w2 HI.out.words HR2.out (by omega)).mono ?_
    rintro e w3 ⟨rfl, hb3⟩
    have HB3 := Lib.hid (HB2.out.trans (hb3.mono HB2.out.size))
    have HT3 := Lib.hid (HT.out.below HT.out.size HB3.out)
    have HR3 := Lib.hid ((HI.out.reads.below HB3.out).more HB3.out.size)
    clear hb3
    go_wp2_with fail
    refine (words_any A _ cap _ l w3 HI.out.words HR3.out (by omega) HT3.out).mono ?_
    rintro e w' ⟨rfl, rfl⟩
    go_wp2_with fail
    refine (bytes_any A _ cap l w3 HI.out.words HR3.out (by omega)).mono ?_
    rintro e w4 ⟨A4, n4, c4, rfl, hr4, hn4, hb4⟩
    have HB4 := Lib.hid (HB3.out.trans (hb4.mono HB3.out.size))
    have HT4 := Lib.hid (HT.out.below HT.out.size HB4.out)
    have HR4 := Lib.hid hr4
    clear hb4 hr4
    go_wp2_with fail
    refine (sum_any A4 n4 c4 _ _ w4 (Crc.wbytes_bytes l) HR4.out (by omega) HT4.out).mono ?_
    rintro e w' ⟨rfl, rfl⟩
    go_wp2
    go_ret
    exact ⟨rfl, HB4.out⟩
theorem crcWords_walk (A : Option Addr) (n cap : Nat) (l : List Nat) (w : World) (hin : InW w A n cap l) (ht : Tab w) :
    Calls Tryd.prog 8 #[.slice A n cap] w fun e w' => e = .returned (.bool true) ∧ Below w.heap.size w w' :=
  crcWords_core A n cap _ _ w (hin.cut 60) (by omega) ht hin.le hin.cap (by omega)
end Go.Proofs.YtkpfciacfajddaaDoor
