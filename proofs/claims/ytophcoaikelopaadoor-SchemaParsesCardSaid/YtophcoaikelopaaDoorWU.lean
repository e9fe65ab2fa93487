/- Walks: the reference's helpers that append to an encoding. -/
import Derived.Test.YtophcoaikelopaaDoorWO
namespace Go.Proofs.YtophcoaikelopaaDoor
open Go.RowKit

set_option maxRecDepth 100000 in
set_option maxHeartbeats 400000 in
theorem refText_any (base : Nat) (A : Option Addr) (n c : Nat) (s : ByteArray) (xs : List UInt8) (w : World) (ho : w.ownsRow base 5 1 (.slice A n c) n (bv xs)) (hb : base ≤ w.heap.size) (hn : n ≤ 2000000) (hs : s.size ≤ 1000000) :
    Calls Tryd.prog 47 #[.slice A n c, .string s] w (RetB w base (.slice A n c) (xs ++ txt s)) := by
  have HO := Lib.hid ho
  clear ho
  go_enter Tryd.func47, Tryd.ntmps47
  go_wp2_with (first
    | (at_builtin; refine wpList_appB _ (.tmp 5) (.tmp 9) rfl rfl base A n c xs rfl (HO.out.alloc _) (w.heap.size + 1) (some ⟨w.heap.size, 0, none⟩) 1 1 [lowB s.size] rfl ?q5 ?q2 ?q4 ?_; (case q5 => exact low_reads w _); (case q2 => omega); (case q4 => (simp; omega)); intro A1 n1 c1 w1 hn1 ho1 hg1; have HO1 := Lib.hid ho1; have HG1 := Lib.hid hg1; have hs1 := hg1.1.size; have hn1' : n1 ≤ 2000001 := (by omega); clear hn1 ho1 hg1)
    | (at_builtin; refine wpList_appS _ rfl (.tmp 10) (.tmp 11) rfl base A1 n1 c1 _ rfl HO1.out s rfl ?r2 ?r4 ?_; (case r2 => omega); (case r4 => (simp at hs1; omega)); intro A2 n2 c2 w2 hn2 ho2 hg2; have HN2 := Lib.hid hn2; have HO2 := Lib.hid ho2; have HG2 := Lib.hid hg2; clear hn2 ho2 hg2))
  go_ret
  refine ⟨A2, n2, c2, rfl, ?_, (HG1.out.trans HG2.out).after ((Below.refl _ _).alloc (Nat.le_refl _) _)⟩
  have := HO2.out
  rw [List.append_assoc] at this
  exact this
set_option maxRecDepth 100000 in
set_option maxHeartbeats 400000 in
theorem refFlag_any (base : Nat) (A : Option Addr) (n c : Nat) (b : Bool) (xs : List UInt8) (w : World) (ho : w.ownsRow base 5 1 (.slice A n c) n (bv xs)) (hb : base ≤ w.heap.size) (hn : n ≤ 2000000) :
    Calls Tryd.prog 49 #[.slice A n c, .bool b] w (RetB w base (.slice A n c) (xs ++ [flagB b])) := by
  have HO := Lib.hid ho
  clear ho
  cases b
  · go_enter Tryd.func49, Tryd.ntmps49
    go_wp2_with (at_builtin; refine wpList_appB _ (.tmp 9) (.tmp 10) rfl rfl base A n c xs rfl (HO.out.alloc _) (w.heap.size + 1) (some ⟨w.heap.size, 0, none⟩) 1 1 [flagB false] rfl ?q5 ?q2 ?q4 ?_; (case q5 => exact list_reads w [flagB false] _ rfl); (case q2 => omega); (case q4 => (simp; omega)); intro A1 n1 c1 w1 hn1 ho1 hg1; have HO1 := Lib.hid ho1; have HG1 := Lib.hid hg1; clear hn1 ho1 hg1)
    go_ret
    exact ⟨A1, n1, c1, rfl, HO1.out, HG1.out.after ((Below.refl _ _).alloc (Nat.le_refl _) _)⟩
  · go_enter Tryd.func49, Tryd.ntmps49
    go_wp2_with (at_builtin; refine wpList_appB _ (.tmp 6) (.tmp 7) rfl rfl base A n c xs rfl (HO.out.alloc _) (w.heap.size + 1) (some ⟨w.heap.size, 0, none⟩) 1 1 [flagB true] rfl ?q5 ?q2 ?q4 ?_; (case q5 => exact list_reads w [flagB true] _ rfl); (case q2 => omega); (case q4 => (simp; omega)); intro A1 n1 c1 w1 hn1 ho1 hg1; have HO1 := Lib.hid ho1; have HG1 := Lib.hid hg1; clear hn1 ho1 hg1)
    go_ret
    exact ⟨A1, n1, c1, rfl, HO1.out, HG1.out.after ((Below.refl _ _).alloc (Nat.le_refl _) _)⟩
/-- A number through so many bytes: what is left, and the bytes. -/
def shrN (x : Int) : Nat → Int
  | 0 => x
  | j + 1 => shrN x j / 256
def leN (x : Int) : Nat → List UInt8
  | 0 => []
  | j + 1 => leN x j ++ [lowB (shrN x j)]
theorem leN_len (x : Int) : ∀ j, (leN x j).length = j
  | 0 => rfl
  | j + 1 => by rw [leN, List.length_append, leN_len x j]; rfl
theorem shrN_bd (x : Int) (h0 : 0 ≤ x) (h1 : x ≤ 18446744073709551615) : ∀ j, 0 ≤ shrN x j ∧ shrN x j ≤ 18446744073709551615
  | 0 => ⟨h0, h1⟩
  | j + 1 => by have := shrN_bd x h0 h1 j; rw [shrN]; omega
theorem lowB_congr {a b : Int} (h : a % 256 = b % 256) : lowB a = lowB b := by unfold lowB; rw [h]
theorem leN_2 (i : Int) : leN (i % 18446744073709551616) 2 = le2 i := by
  simp only [leN, le2, shrN, List.nil_append, List.cons_append]
  rw [lowB_congr (show i % 18446744073709551616 % 256 = i % 256 by omega), lowB_congr (show i % 18446744073709551616 / 256 % 256 = i / 256 % 256 by omega)]
theorem leN_4 (i : Int) : leN (i % 18446744073709551616) 4 = le4 i := by
  simp only [leN, le4, shrN, List.nil_append, List.cons_append]
  rw [lowB_congr (show i % 18446744073709551616 % 256 = i % 256 by omega), lowB_congr (show i % 18446744073709551616 / 256 % 256 = i / 256 % 256 by omega),
    lowB_congr (show i % 18446744073709551616 / 256 / 256 % 256 = i / 65536 % 256 by omega), lowB_congr (show i % 18446744073709551616 / 256 / 256 / 256 % 256 = i / 16777216 % 256 by omega)]
set_option maxRecDepth 100000 in
set_option maxHeartbeats 1000000 in
theorem refNumber_any (base : Nat) (A : Option Addr) (n c : Nat) (x : Int) (k : Nat) (i : Int) (hi : i = k) (xs : List UInt8) (w : World) (ho : w.ownsRow base 5 1 (.slice A n c) n (bv xs)) (hb : base ≤ w.heap.size) (hn : n ≤ 2000000) (h0 : 0 ≤ x) (h1 : x ≤ 18446744073709551615) (hk : k ≤ 8) :
    Calls Tryd.prog 48 #[.slice A n c, .int .u64 x, .int .i64 i] w (RetB w base (.slice A n c) (xs ++ leN x k)) := by
  subst hi
  have HO := Lib.hid ho
  have HL : Hid (xs.length = n) := own_len ho
  have HBD := Lib.hid (shrN_bd x h0 h1)
  clear ho h0 h1
  go_enter Tryd.func48, Tryd.ntmps48
  go_wp2
  go_loopw [0, 1, 8] (fun o y i wr => ∃ (j : Nat) (A' : Option Addr) (n' c' : Nat), j ≤ k ∧ i = .int .i64 j ∧ y = .int .u64 (shrN x j) ∧ o = .slice A' n' c' ∧ n' ≤ n + j ∧ Hid (wr.ownsRow base 5 1 (.slice A' n' c') n' (bv (xs ++ leN x j))) ∧ Hid (Chg w wr (.slice A n c) (.slice A' n' c'))) (fun _ _ i _ => k - (intOf i).toNat)
  case atStart => exact ⟨0, A, n, c, Nat.zero_le _, rfl, rfl, rfl, by omega, by rw [leN, List.append_nil]; exact HO.out, Chg.refl _ _⟩
  case round =>
    obtain ⟨j, A', n', c', hj, rfl, rfl, rfl, hn', ho', hg'⟩ := hrel
    by_cases hlt : j < k
    · have hbd := HBD.out j
      have HSH := Lib.hid (show shrN x (j + 1) = shrN x j / 256 from rfl)
      have HLE := Lib.hid (show leN x (j + 1) = leN x j ++ [lowB (shrN x j)] from rfl)
      generalize shrN x j = y at *
      have hsz := hg'.out.1.size
      have hy0 := hbd.1
      have hy1 := hbd.2
      clear hbd
      go_wp2_with (at_builtin; refine wpList_appB _ (.tmp 10) (.tmp 13) rfl rfl base A' n' c' (xs ++ leN x j) rfl (ho'.out.alloc _) (wr.heap.size + 1) (some ⟨wr.heap.size, 0, none⟩) 1 1 [lowB y] rfl ?q5 ?q2 ?q4 ?_; (case q5 => exact low_reads wr _); (case q2 => omega); (case q4 => (simp; omega)); intro A1 n1 c1 w1 hn1 ho1 hg1; have HO1 := Lib.hid ho1; have HG1 := Lib.hid (hg'.out.trans (hg1.after ((Below.refl _ _).alloc (Nat.le_refl _) _))); have hn1' : n1 ≤ n + (j + 1) := (by omega); clear hn1 ho1 hg1)
      rw [List.append_assoc, ← HLE.out] at HO1
      go_roundw
      case rel => exact ⟨j + 1, A1, n1, c1, by omega, by go_num, by rw [HSH.out], rfl, hn1', HO1, HG1⟩
      case measure => simp [intOf]; omega
    · obtain rfl : k = j := by omega
      go_wp2
      go_ret
      exact ⟨A', n', c', rfl, ho'.out, hg'.out⟩
end Go.Proofs.YtophcoaikelopaaDoor
