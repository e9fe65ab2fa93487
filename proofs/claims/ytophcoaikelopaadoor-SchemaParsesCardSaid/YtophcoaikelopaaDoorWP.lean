/- Walks: the program's reader. -/
import Derived.Test.YtophcoaikelopaaDoorWL
import Derived.Laws.IdiomStrings
import Derived.Laws.BytesArg
import Derived.Laws.MakeOwn
import Derived.Outline
namespace Go.Proofs.YtophcoaikelopaaDoor
open Go.RowKit

/-- A reader: what is left, and whether it ended. -/
structure RS where
  l : List UInt8
  e : Bool
/-- The next n bytes. -/
def rdB (n : Nat) (s : RS) : List UInt8 := if n ≤ s.l.length then s.l.take n else List.replicate n 0
def rdS (n : Nat) (s : RS) : RS := if n ≤ s.l.length then ⟨s.l.drop n, s.e⟩ else ⟨[], true⟩
theorem rdB_len (n : Nat) (s : RS) : (rdB n s).length = n := by unfold rdB; split <;> simp; omega
/-- A reader in memory: its block, and bytes that lie below B. -/
def RSt (w : World) (B rb : Nat) (s : RS) : Prop :=
  ∃ X m cx, Blk w rb 92 #[.slice X m cx, .bool s.e] ∧ Reads w B 1 X m (bv s.l) ∧ m ≤ cx ∧ cx ≤ 9223372036854775807 ∧ B ≤ rb
theorem conv_str {w : World} {B : Nat} {X : Option Addr} {m : Nat} (c : Nat) {l : List UInt8} (h : Reads w B 1 X m (bv l)) : (convert 60 9 (.slice X m c)).run Tryd.prog w = .ok (.string ⟨l.toArray⟩) w := by
  have hl : l.length = m := by have := h.1; rw [bv_len] at this; omega
  subst hl
  rcases X with _ | ad
  · have h0 : l = [] := by
      rcases Nat.eq_zero_or_pos l.length with h0 | h0
      · exact List.eq_nil_of_length_eq_zero h0
      · obtain ⟨ad, hA, _⟩ := h.2 h0; cases hA
    subst h0
    exact run_convert_bytes_nil (P := Tryd.prog) w 60 5 Tryd.underlying60 Tryd.underlying5 _ c 9 Tryd.underlying9
  · refine run_convert_bytes_back w 60 9 5 ad c l Tryd.underlying60 Tryd.underlying5 Tryd.underlying9 fun j hj => ?_
    obtain ⟨ad', hA, _, hc⟩ := h.2 (by omega)
    injection hA with hA
    subst hA
    exact hc j _ (by simp [bv, hj])
theorem run_make_rowN {P : Program} (t e : TypeId) (i : TypeInfo) (z : Value) (ht : P.underlying t = some (.slice e)) (hi : P.info? e = some i) (hz : i.zero = some z)
    (kl kc : IntKind) (n c : Nat) (hnc : n ≤ c) (hbytes : i.bytes * c ≤ 281474976710656) (h63 : c ≤ 9223372036854775807) (w : World) :
    (Instr.makeSlice t (.int kl (n : Int)) (.int kc (c : Int))).run P w = .ok (.slice (some ⟨w.heap.size, 0, none⟩) n c) (w.alloc (.cells (madeCells z.cells (c * i.size)) e)) := by
  have hb : (i.bytes : Int) * (c : Int) ≤ 281474976710656 := by
    have h : ((i.bytes * c : Nat) : Int) ≤ 281474976710656 := by omega
    rwa [Int.natCast_mul] at h
  have hr := run_make (P := P) w t e i z ht hi hz kl kc n c (by omega) (by omega) hb (by omega)
  simp only [Int.toNat_natCast] at hr
  exact hr
theorem made_zero (k : Nat) (z : Array Value) (hz : z = (Value.int .u8 0).cells) : madeCells z k = (bv (List.replicate k 0)).toArray := by
  subst hz
  apply Array.ext
  · simp [size_madeCells, bv]
  · intro i h1 h2
    simp [madeCells, bv, Value.cells, Nat.mod_one]
theorem make_bytes (k : Nat) (hk : k ≤ 1000000) (w : World) : (Instr.makeSlice 60 (.int .i64 (k : Int)) (.int .i64 (k : Int))).run Tryd.prog w = .ok (.slice (some ⟨w.heap.size, 0, none⟩) k k) (w.alloc (.cells (bv (List.replicate k 0)).toArray 5)) := by
  obtain ⟨i0, hi0, hz0, hz1, hz2⟩ := info_parts info5
  have h := run_make_rowN 60 5 i0 _ Tryd.underlying60 hi0 hz0 .i64 .i64 k k (Nat.le_refl _) (by rw [hz2]; omega) (by omega) w
  rw [hz1, Nat.mul_one, made_zero k _ rfl] at h
  exact h
/-- What take leaves. -/
def RetTk (w : World) (B rb n : Nat) (s : RS) (e' : Ending) (w' : World) : Prop :=
  ∃ Y cy, e' = .returned (.slice Y n cy) ∧ n ≤ cy ∧ Reads w' w'.heap.size 1 Y n (bv (rdB n s)) ∧ RSt w' B rb (rdS n s) ∧ w.grownBy w' (some rb)
theorem only_at {w : World} {g i : Nat} (u : Value) : w.grownBy (w.setCell ⟨g, i, none⟩ u) (some g) := only_setCell (p := ⟨g, i, none⟩) (World.grownBy.refl w _) (.inl rfl) u
theorem Reads.take1 {w : World} {B n : Nat} {A : Option Addr} {l : List UInt8} (h : Reads w B 1 A n (bv l)) (k : Nat) (hk : k ≤ n) : Reads w B 1 A k (bv (l.take k)) := by
  refine ⟨by have := h.1; rw [bv_len] at this ⊢; rw [List.length_take]; omega, fun hn => ?_⟩
  obtain ⟨ad, hA, hb, hc⟩ := h.2 (by omega)
  refine ⟨ad, hA, hb, fun j u hu => hc j u ?_⟩
  have hj : j < k := by have := (List.getElem?_eq_some_iff.1 hu).1; rw [bv_len, List.length_take] at this; omega
  rw [← hu]
  simp [bv, hj]
theorem Reads.cut1 {w : World} {B n : Nat} {A : Option Addr} {l : List UInt8} (h : Reads w B 1 A n (bv l)) {k cap : Nat} (hk : k ≤ n) (hc : n ≤ cap) :
    Reads w B 1 (if cap = k then A else A.map (·.add k)) (n - k) (bv (l.drop k)) := by
  have := h.cut hk hc
  simp only [Nat.mul_one] at this
  have e : (bv l).drop k = bv (l.drop k) := by simp [bv]
  rw [e] at this
  exact this
set_option maxRecDepth 100000 in
set_option maxHeartbeats 1000000 in
theorem take_any (B rb n : Nat) (i : Int) (hi : i = n) (s : RS) (w : World) (h : RSt w B rb s) (hn : n ≤ 255) :
    Calls Tryd.prog 50 #[.pointer (some ⟨rb, 0, none⟩), .int .i64 i] w (RetTk w B rb n s) := by
  subst hi
  obtain ⟨X, m, cx, hB, hr, hm, hc, hBr⟩ := h
  have hl : s.l.length = m := by have := hr.1; rw [bv_len] at this; omega
  have c0 : w.cell? ⟨rb, 0, none⟩ = some (.slice X m cx) := hB.cell 0
  have c1 : w.cell? ⟨rb, 1, none⟩ = some (.bool s.e) := hB.cell 1
  have z0 := hB.frozen 0
  have z1 := hB.frozen 1
  have HL := Lib.hid hl
  have HB := Lib.hid hB
  have HR := Lib.hid hr
  have hlt := hB.lt
  clear hl hB hr
  by_cases hle : n ≤ m
  · have h1 : ¬ (m : Int) < (n : Int) := by omega
    have HB1 := Lib.hid (show rdB n s = s.l.take n by unfold rdB; rw [if_pos (by rw [HL.out]; exact hle)])
    have HS1 := Lib.hid (show rdS n s = ⟨s.l.drop n, s.e⟩ by unfold rdS; rw [if_pos (by rw [HL.out]; exact hle)])
    have HC := Lib.hid (HR.out.cut1 hle hm)
    have HT := Lib.hid (HR.out.take1 n hle)
    by_cases hcn : cx = n
    · have HCN := Lib.hid hcn
      rw [if_pos hcn] at HC
      subst hcn
      go_enter Tryd.func50, Tryd.ntmps50
      go_wp2
      go_ret
      refine ⟨X, cx, rfl, Nat.le_refl _, ?_, ?_, only_at _⟩
      · rw [HB1.out]
        exact (HT.out.setCell (p := ⟨rb, 0, none⟩) hBr _).more (by simp; omega)
      · rw [HS1.out]
        have hz : m - cx = 0 := by omega
        have hC := HC.out
        rw [hz] at hC
        exact ⟨X, 0, 0, by simpa using HB.out.set_ 0 (.slice X 0 0), hC.setCell (p := ⟨rb, 0, none⟩) hBr _, by omega, by omega, hBr⟩
    · rw [if_neg hcn] at HC
      go_enter Tryd.func50, Tryd.ntmps50
      go_wp2
      go_ret
      refine ⟨X, cx, rfl, by omega, ?_, ?_, only_at _⟩
      · rw [HB1.out]
        exact (HT.out.setCell (p := ⟨rb, 0, none⟩) hBr _).more (by simp; omega)
      · rw [HS1.out]
        exact ⟨X.map (·.add n), m - n, cx - n, by simpa using HB.out.set_ 0 (.slice (X.map (·.add n)) (m - n) (cx - n)), HC.out.setCell (p := ⟨rb, 0, none⟩) hBr _, by omega, by omega, hBr⟩
  · have h1 : (m : Int) < (n : Int) := by omega
    have HB1 := Lib.hid (show rdB n s = List.replicate n 0 by unfold rdB; rw [if_neg (by rw [HL.out]; exact hle)])
    have HS1 := Lib.hid (show rdS n s = ⟨[], true⟩ by unfold rdS; rw [if_neg (by rw [HL.out]; exact hle)])
    have hmk := fun W => make_bytes n (by omega) W
    go_enter Tryd.func50, Tryd.ntmps50
    go_wp2
    go_ret
    refine ⟨_, n, rfl, Nat.le_refl _, ?_, ?_, only_alloc (only_setCell (p := ⟨rb, 1, none⟩) (only_at _) (.inl rfl) _) _⟩
    · rw [HB1.out]
      have := list_reads ((w.setCell ⟨rb, 0, none⟩ (.slice none 0 0)).setCell ⟨rb, 1, none⟩ (.bool true)) (List.replicate n 0) _ rfl
      rw [List.length_replicate, show ((w.setCell ⟨rb, 0, none⟩ (.slice none 0 0)).setCell ⟨rb, 1, none⟩ (.bool true)).heap.size = w.heap.size by simp] at this
      exact this.more (by rw [World.size_alloc]; simp)
    · rw [HS1.out]
      exact ⟨none, 0, 0, by simpa using ((HB.out.set_ 0 (.slice none 0 0)).set_ 1 (.bool true)).alloc _, Reads.none_, by omega, by omega, hBr⟩
/-- The next byte as a number. -/
def nb (s : RS) : Nat := ((rdB 1 s).getD 0 0).toNat
theorem nb_lt (s : RS) : nb s < 256 := UInt8.toNat_lt _
theorem bv_at (l : List UInt8) (k : Nat) (h : k < l.length) : (bv l)[k]? = some (.int .u8 ((l.getD k 0).toNat : Int)) := by simp [bv, h, List.getD]
/-- A number that was read, and what stands behind it. -/
def RetN (w : World) (B rb : Nat) (v : Value) (s : RS) (e' : Ending) (w' : World) : Prop := e' = .returned v ∧ RSt w' B rb s ∧ w.grownBy w' (some rb)
set_option maxRecDepth 100000 in
set_option maxHeartbeats 1000000 in
theorem number_any (B rb : Nat) (s : RS) (w : World) (h : RSt w B rb s) : Calls Tryd.prog 53 #[.pointer (some ⟨rb, 0, none⟩)] w (RetN w B rb (.int .i64 (nb s : Int)) (rdS 1 s)) := by
  have HT := Lib.hid (take_any B rb 1 1 rfl s w h (by omega))
  have hb := nb_lt s
  have HNB := Lib.hid (show nb s = ((rdB 1 s).getD 0 0).toNat from rfl)
  generalize nb s = k at *
  clear h
  go_enter Tryd.func53, Tryd.ntmps53
  go_wp2_with (go_at_call 50; refine HT.out.mono ?_; rintro e w1 ⟨Y, cy, rfl, hcy, hr, hs, hg⟩; obtain ⟨b1, off, rfl, hb1, hcell⟩ := hr.plain (by omega) (by omega); have c0 : w1.cell? ⟨b1, off, none⟩ = some (.int .u8 (k : Int)) := (by have := hcell 0 _ (bv_at _ 0 (by rw [rdB_len]; omega)); rw [← HNB.out] at this; exact this); have HS := Lib.hid hs; have HG := Lib.hid hg; clear hr hs hg hcell)
  go_ret
  exact ⟨rfl, HS.out, HG.out⟩
set_option maxRecDepth 100000 in
set_option maxHeartbeats 1000000 in
theorem text_any (B rb : Nat) (s : RS) (w : World) (h : RSt w B rb s) : Calls Tryd.prog 51 #[.pointer (some ⟨rb, 0, none⟩)] w (RetN w B rb (.string ⟨(rdB (nb s) (rdS 1 s)).toArray⟩) (rdS (nb s) (rdS 1 s))) := by
  have HN := Lib.hid (number_any B rb s w h)
  have hb := nb_lt s
  generalize nb s = k at *
  clear h
  go_enter Tryd.func51, Tryd.ntmps51
  go_wp2_with (first
    | (go_at_call 53; refine HN.out.mono ?_; rintro e w1 ⟨rfl, hs, hg⟩; have HT := Lib.hid (take_any B rb k (k : Int) rfl (rdS 1 s) w1 hs (by omega)); have HG := Lib.hid hg; clear hs hg)
    | (go_at_call 50; refine HT.out.mono ?_; rintro e w2 ⟨Y, cy, rfl, hcy, hr, hs, hg⟩; have hcv := conv_str cy hr; have HS2 := Lib.hid hs; have HG2 := Lib.hid hg; clear hr hs hg))
  go_ret
  exact ⟨rfl, HS2.out, HG.out.trans HG2.out⟩
theorem ofInt_i64 (a : Nat) (ha : a < 9223372036854775808) : (BitVec.ofInt 64 (a : Int)).toNat = a := by
  rw [BitVec.ofInt_natCast, BitVec.toNat_ofNat]; exact Nat.mod_eq_of_lt (by omega)
theorem i64_or_nat (a b : Nat) (ha : a < 9223372036854775808) (hb : b < 9223372036854775808) : bits .or .i64 (a : Int) (b : Int) = ((a ||| b : Nat) : Int) := by
  have hx : a ||| b < 2 ^ 63 := Nat.or_lt_two_pow (by omega) (by omega)
  show IntKind.i64.wrap ((BitVec.ofInt 64 (a : Int) ||| BitVec.ofInt 64 (b : Int)).toNat : Int) = _
  rw [BitVec.toNat_or, ofInt_i64 a ha, ofInt_i64 b hb, IntKind.wrap_i64]
  omega
theorem or_add (i a b : Nat) (hb : b < 2 ^ i) : b ||| 2 ^ i * a = b + 2 ^ i * a := by
  rw [Nat.or_comm, ← Nat.two_pow_add_eq_or_of_lt hb, Nat.add_comm]
theorem or8 (a b : Nat) (ha : a < 256) (hb : b < 65536) : bits .or .i64 (a : Int) ((b : Int) * 256) = ((a + 256 * b : Nat) : Int) := by
  rw [show (b : Int) * 256 = ((256 * b : Nat) : Int) by omega, i64_or_nat a (256 * b) (by omega) (by omega)]
  exact congrArg _ (or_add 8 b a ha)
/-- The next two bytes as a number. -/
def nb2 (s : RS) : Nat := ((rdB 2 s).getD 0 0).toNat + 256 * ((rdB 2 s).getD 1 0).toNat
set_option maxRecDepth 100000 in
set_option maxHeartbeats 1000000 in
theorem short_any (B rb : Nat) (s : RS) (w : World) (h : RSt w B rb s) : Calls Tryd.prog 52 #[.pointer (some ⟨rb, 0, none⟩)] w (RetN w B rb (.int .i64 (nb2 s : Int)) (rdS 2 s)) := by
  have HT := Lib.hid (take_any B rb 2 2 rfl s w h (by omega))
  have hb0 : ((rdB 2 s).getD 0 0).toNat < 256 := UInt8.toNat_lt _
  have hb1 : ((rdB 2 s).getD 1 0).toNat < 256 := UInt8.toNat_lt _
  have HNB := Lib.hid (show nb2 s = ((rdB 2 s).getD 0 0).toNat + 256 * ((rdB 2 s).getD 1 0).toNat from rfl)
  have HC0 := Lib.hid (bv_at (rdB 2 s) 0 (by rw [rdB_len]; omega))
  have HC1 := Lib.hid (bv_at (rdB 2 s) 1 (by rw [rdB_len]; omega))
  generalize ((rdB 2 s).getD 0 0).toNat = k0 at *
  generalize ((rdB 2 s).getD 1 0).toNat = k1 at *
  generalize nb2 s = k at *
  clear h
  go_enter Tryd.func52, Tryd.ntmps52
  go_wp2_with (go_at_call 50; refine HT.out.mono ?_; rintro e w1 ⟨Y, cy, rfl, hcy, hr, hs, hg⟩; obtain ⟨b1, off, rfl, hbb, hcell⟩ := hr.plain (by omega) (by omega); have c0 : w1.cell? ⟨b1, off, none⟩ = some (.int .u8 (k0 : Int)) := hcell 0 _ HC0.out; have c1 : w1.cell? ⟨b1, off + 1, none⟩ = some (.int .u8 (k1 : Int)) := hcell 1 _ HC1.out; have HS := Lib.hid hs; have HG := Lib.hid hg; clear hr hs hg hcell)
  go_quiet (fail)
  go_wp2
  go_ret
  refine ⟨?_, HS.out, only_drewN HG.out nq⟩
  rw [HNB.out, ← or8 k0 k1 hb0 (by omega)]
  rfl
end Go.Proofs.YtophcoaikelopaaDoor
