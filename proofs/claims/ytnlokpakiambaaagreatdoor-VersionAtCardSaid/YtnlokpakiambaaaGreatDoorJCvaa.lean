/- The walks and laws that the claim leans on, part 51. -/
import Derived.Test.YtnlokpakiambaaaGreatDoorJbx
namespace Go.Proofs.YtnlokpakiambaaaGreatDoor
open Go.ChangeShapes Go.WideShapes Go.ChangeAt Go.RowKit
section
variable {H : Type} {enc : TypeId × Value → H} {W : World} {b0 base : Nat} {sp : Nat → Bool} {held : Bool} {v : Value} {d : DataW H} {p : List MemPlace} {r : Reach}
set_option maxRecDepth 100000 in
theorem u64_of (hv : Value.okWide Tryz.prog W r b0 23 v) (h : DataW.Trod enc Tryz.prog W base sp held 23 v d p) : ∃ n : Nat, v = .int .u64 (n : Int) ∧ n < 18446744073709551616 := by
  obtain ⟨n, hs, _, _, hw⟩ := open_int Tryz.underlying23 hv h
  have hb : 0 ≤ n ∧ n < 18446744073709551616 := by
    have hm : IntKind.u64.min = 0 := by decide
    have hx : IntKind.u64.max = 18446744073709551615 := by decide
    simp only [Lit.wf, hm, hx, Bool.and_eq_true, decide_eq_true_eq] at hw
    omega
  exact ⟨n.toNat, by rw [Int.toNat_of_nonneg hb.1]; exact hs, by omega⟩
end
end Go.Proofs.YtnlokpakiambaaaGreatDoor
namespace Go.Proofs.YtnlokpakiambaaaGreatDoor
open Go.RowKit Go.Maps
theorem newI_le (x : Nat) : ∀ l : List VV, newI x l ≤ l.length
  | [] => Nat.le_refl _
  | v :: t => by
    unfold newI
    split
    · exact Nat.zero_le _
    · have := newI_le x t
      rw [List.length_cons]
      omega
set_option maxRecDepth 100000
set_option maxHeartbeats 4000000
theorem newest_any (A : Option Addr) (n c : Nat) (l : List RV) (x : Nat) (w : World) (hr : Reads w w.heap.size 5 A n (rvCells l)) (hn : n ≤ 100000) :
    Calls Tryz.prog 57 #[.slice A n c, .int .u64 (x : Int)] w fun e w' => e = .returned (.int .i64 (newI x (vvs l) : Int)) ∧ Below w.heap.size w w' := by
  have hl := rv_len hr
  have HR := Lib.hid hr
  have HL := Lib.hid hl
  have HB0 : Hid (Below w.heap.size w w) := Below.refl _ _
  have HN0 : Hid (newI x (vvs l) = 0 + newI x (vvs (l.drop 0))) := Lib.hid (by rw [Nat.zero_add, List.drop_zero])
  clear hr hl
  go_enter Tryz.func57, Tryz.ntmps57
  go_wp2
  go_loopw [9] (fun v wr => ∃ k : Nat, k ≤ n ∧ v = .int .i64 (k : Int) ∧ Hid (newI x (vvs l) = k + newI x (vvs (l.drop k))) ∧ Hid (Below w.heap.size w wr)) (fun v _ => n - (Go.RowKit.intOf v).toNat)
  case atStart => exact ⟨0, Nat.zero_le _, rfl, HN0, HB0⟩
  case round =>
    clear HN0 HB0
    obtain ⟨k, hk, rfl, HN, H⟩ := hrel
    by_cases hlt : k < n
    · obtain ⟨hkl, gb, go, hA3, _, f0, f1, f2, f3, f4⟩ := rv_facts ((HR.out.below H.out).more H.out.size) (k := k) hlt
      subst hA3
      have HS : Hid (newI x (vvs (l.drop k)) = if (l[k]).v.st ≤ x then 0 else newI x (vvs (l.drop (k + 1))) + 1) := Lib.hid (by
        rw [List.drop_eq_getElem_cons hkl]
        rfl)
      generalize l[k] = r at *
      obtain ⟨v, B, nb, cb, D, nd, cd⟩ := r
      obtain ⟨st, dl, q, bl, p⟩ := v
      dsimp only at f0 f1 f2 f3 f4 HS
      have hz5 : (0 : Int) ≤ (k : Int) := by omega
      have hz6 : (k : Int) < (n : Int) := by omega
      have hbn := Blk.new wr 62 #[.int .u64 (st : Int), .bool dl, .int .u64 (q : Int), .slice B nb cb, .slice D nd cd]
      have g0 : (wr.alloc (.cells #[.int .u64 (st : Int), .bool dl, .int .u64 (q : Int), .slice B nb cb, .slice D nd cd] 62)).cell? ⟨wr.heap.size, 0, none⟩ = some (.int .u64 (st : Int)) := hbn.cell 0
      have HB2 : Hid (Below w.heap.size w (wr.alloc (.cells #[.int .u64 (st : Int), .bool dl, .int .u64 (q : Int), .slice B nb cb, .slice D nd cd] 62))) := Lib.hid (H.out.alloc H.out.size _)
      clear hbn hkl
      by_cases hx : st ≤ x
      · have d1 : decide (st ≤ x) = true := decide_eq_true hx
        have HF : Hid (newI x (vvs l) = k) := Lib.hid (by rw [HN.out, HS.out, if_pos hx]; rfl)
        clear HN HS
        go_wp2
        go_ret
        rw [HF.out]
        exact ⟨rfl, HB2.out⟩
      · have d1 : decide (st ≤ x) = false := decide_eq_false hx
        have HF : Hid (newI x (vvs l) = (k + 1) + newI x (vvs (l.drop (k + 1)))) := Lib.hid (by rw [HN.out, HS.out, if_neg hx]; omega)
        clear HN HS
        go_wp2
        go_roundw
        case rel =>
          first
            | exact ⟨k + 1, by omega, by go_num, HF, HB2⟩
            | (repeat apply Exists.intro
               refine ⟨?_, rfl⟩
               exact ⟨k + 1, by omega, by go_num, HF, HB2⟩)
        case measure => simp [Go.RowKit.intOf]; omega
    · obtain rfl : n = k := by omega
      have HF : Hid (newI x (vvs l) = n) := Lib.hid (by
        rw [HN.out, List.drop_of_length_le (Nat.le_of_eq HL.out)]
        rfl)
      clear HN
      go_wp2
      go_ret
      rw [HF.out]
      exact ⟨rfl, H.out⟩
theorem descends_any (A : Option Addr) (n c : Nat) (l : List RV) (w : World) (hr : Reads w w.heap.size 5 A n (rvCells l)) (hn : n ≤ 100000) (hd : Desc l) :
    Calls Tryz.prog 58 #[.slice A n c] w fun e w' => e = .returned (.bool true) ∧ Below w.heap.size w w' := by
  have hl := rv_len hr
  have HR := Lib.hid hr
  have HL := Lib.hid hl
  have HD := Lib.hid hd
  have HB0 : Hid (Below w.heap.size w w) := Below.refl _ _
  clear hr hl hd
  go_enter Tryz.func58, Tryz.ntmps58
  go_wp2
  go_loopw [3] (fun v wr => ∃ k : Nat, k ≤ n + 1 ∧ 1 ≤ k ∧ v = .int .i64 (k : Int) ∧ Hid (Below w.heap.size w wr)) (fun v _ => n + 1 - (Go.RowKit.intOf v).toNat)
  case atStart => exact ⟨1, by omega, Nat.le_refl _, rfl, HB0⟩
  case round =>
    clear HB0
    obtain ⟨k, hk, hk1, rfl, H⟩ := hrel
    by_cases hlt : k < n
    · obtain ⟨j, rfl⟩ : ∃ j, k = j + 1 := ⟨k - 1, by omega⟩
      obtain ⟨hkl, gb, go, hA3, _, f0, -, -, -, -⟩ := rv_facts ((HR.out.below H.out).more H.out.size) (k := j + 1) hlt
      obtain ⟨hkl', gb', go', hA3', _, e0, -, -, -, -⟩ := rv_facts ((HR.out.below H.out).more H.out.size) (k := j) (by omega)
      rw [hA3] at hA3'
      injection hA3' with e1
      injection e1 with e1 e2
      subst e1 e2
      have HLt := Lib.hid (HD.out j hkl)
      generalize (l[j + 1]).v.st = s1 at *
      generalize (l[j]).v.st = s0 at *
      subst hA3
      have hs := HLt.out
      have d1 : decide ((s0 : Int) ≤ (s1 : Int)) = false := decide_eq_false (by omega)
      have d2 : decide (s0 ≤ s1) = false := decide_eq_false (by omega)
      have d3 : ¬ s0 ≤ s1 := by omega
      have hz5 : (0 : Int) ≤ (j : Int) := by omega
      have hz6 : (j : Int) + 1 < (n : Int) := by omega
      have hz7 : (j : Int) < (n : Int) := by omega
      have hz8 : wrap64 ((j : Int) + 1 - 1) = (j : Int) := by rw [IntWalk.wrap64_in _ (by omega)]; omega
      have HBd := Lib.hid H.out.drew
      clear hkl hkl' hs
      go_wp2
      go_region
      go_wp2
      go_roundw
      case rel =>
        first
          | exact ⟨j + 1 + 1, by omega, by omega, by go_num, HBd⟩
          | (repeat apply Exists.intro
             refine ⟨?_, rfl⟩
             exact ⟨j + 1 + 1, by omega, by omega, by go_num, HBd⟩)
      case measure => simp [Go.RowKit.intOf]; omega
    · have d0 : ¬ (k : Int) < (n : Int) := by omega
      go_wp2
      go_ret
      exact ⟨rfl, H.out⟩
end Go.Proofs.YtnlokpakiambaaaGreatDoor
namespace Go.Proofs.YtnlokpakiambaaaGreatDoor
open Go.RowKit Go.Maps
def stm (st : Nat) : List Nat := [st, st + 1, if st = 0 then 18446744073709551615 else st - 1]
def stL (l : List RV) : List Nat := l.flatMap fun r => stm r.v.st
theorem stL_snoc (l : List RV) (r : RV) : stL (l ++ [r]) = stL l ++ stm r.v.st := by simp [stL]
set_option maxRecDepth 100000
set_option maxHeartbeats 4000000
theorem stamps_any (A : Option Addr) (n c : Nat) (l : List RV) (w : World) (hr : Reads w w.heap.size 5 A n (rvCells l)) (hn : n ≤ 10000) (hs : ∀ r ∈ l, r.v.st ≤ 4611686018427387903) :
    Calls Tryz.prog 14 #[.slice A n c] w fun e w' => ∃ A' c', e = .returned (.slice A' (3 * n) c') ∧ w'.ownsRow w.heap.size 23 1 (.slice A' (3 * n) c') (3 * n) (uCells (stL l)) ∧ Below w.heap.size w w' := by
  have hl := rv_len hr
  obtain ⟨i0, hi0, hz0, hz1, hz2⟩ := info_parts infoU64
  have HR := Lib.hid hr
  have HS := Lib.hid hs
  have HB0 : Hid (Below w.heap.size w w) := Below.refl _ _
  have HO0 : Hid (w.ownsRow w.heap.size 23 1 (.slice none (3 * 0) 0) (3 * 0) (uCells (stL (l.take 0)))) := World.ownsRow_nil _ _ _ _
  have HL := Lib.hid hl
  clear hr hl hs
  go_enter Tryz.func14, Tryz.ntmps14
  go_wp2
  go_loopw [3, 8] (fun p i wr => ∃ (k m : Nat) (A1 : Option Addr) (c1 : Nat), k ≤ n ∧ m = 3 * k ∧ i = .int .i64 (k : Int) ∧ p = .slice A1 m c1 ∧ Hid (wr.ownsRow w.heap.size 23 1 (.slice A1 m c1) m (uCells (stL (l.take k)))) ∧ Hid (Below w.heap.size w wr)) (fun _ i _ => n - (Go.RowKit.intOf i).toNat)
  case atStart => exact ⟨0, 0, _, _, Nat.zero_le _, rfl, rfl, rfl, HO0, HB0⟩
  case round =>
    clear HB0 HO0
    obtain ⟨k, m, A1, c1, hk, hm, rfl, rfl, HO, H⟩ := hrel
    by_cases hlt : k < n
    · obtain ⟨hkl, gb, go, hA3, _, f0, f1, f2, f3, f4⟩ := rv_facts ((HR.out.below H.out).more H.out.size) (k := k) hlt
      subst hA3
      have hz5 : (0 : Int) ≤ (k : Int) := by omega
      have hz6 : (k : Int) < (n : Int) := by omega
      have HS1 := Lib.hid (HS.out (l[k]) (List.getElem_mem hkl))
      have HT : Hid (uCells (stL (l.take k)) ++ uCells (stm (l[k]).v.st) = uCells (stL (l.take (k + 1)))) := Lib.hid (by
        rw [List.take_succ_eq_append_getElem hkl, stL_snoc, uCells_app])
      generalize l[k] = r at *
      obtain ⟨v, B, nb, cb, D, nd, cd⟩ := r
      obtain ⟨st, dl, q, bl, p⟩ := v
      dsimp only at f0 f1 f2 f3 f4 HS1 HT
      obtain ⟨s3, hs3⟩ : ∃ s3, (if st = 0 then 18446744073709551615 else st - 1) = s3 := ⟨_, rfl⟩
      have h62 := HS1.out
      have e1 : IntKind.u64.wrap ((st : Int) + 1) = ((st + 1 : Nat) : Int) := by rw [wraps_u64 _ (by omega) (by omega)]; omega
      have e3 : IntKind.u64.wrap ((st : Int) - 1) = (s3 : Int) := by
        rw [← hs3, IntKind.wrap_u64]
        split <;> omega
      have HT3 : Hid (stm st = [st, st + 1, s3]) := Lib.hid (by unfold stm; rw [hs3])
      generalize st + 1 = s2 at *
      have HLE := Lib.hid H.out.size
      have hbn := Blk.new wr 62 #[.int .u64 (st : Int), .bool dl, .int .u64 (q : Int), .slice B nb cb, .slice D nd cd]
      obtain ⟨W2, hW2⟩ : ∃ W2, wr.alloc (.cells #[.int .u64 (st : Int), .bool dl, .int .u64 (q : Int), .slice B nb cb, .slice D nd cd] 62) = W2 := ⟨_, rfl⟩
      have HW2 := Lib.hid hW2
      rw [hW2] at hbn
      have g0 : W2.cell? ⟨wr.heap.size, 0, none⟩ = some (.int .u64 (st : Int)) := hbn.cell 0
      have HO2 : Hid (W2.ownsRow w.heap.size 23 1 (.slice A1 m c1) m (uCells (stL (l.take k)))) := Lib.hid (by rw [← hW2]; exact HO.out.alloc _)
      have HB2 : Hid (Below w.heap.size w W2) := Lib.hid (by rw [← hW2]; exact H.out.alloc H.out.size _)
      have HOD := Lib.hid (HO2.out.alloc (.cells #[.int .u64 (st : Int), .int .u64 (s2 : Int), .int .u64 (s3 : Int)] 23))
      have HBD := Lib.hid (HB2.out.alloc HB2.out.size (.cells #[.int .u64 (st : Int), .int .u64 (s2 : Int), .int .u64 (s3 : Int)] 23))
      clear H HO hkl hbn hW2 h62 hs3
      go_upto_region 5 with fail
      rw [HW2.out]
      go_wp2_with (at_builtin; refine wpList_app _ (.tmp 12) (.tmp 21) 33 rfl rfl w.heap.size 23 i0 _ 1 8 Tryz.underlying33 hi0 hz0 hz1 hz2 rfl Nat.one_pos (.slice A1 m c1) m (uCells (stL (l.take k))) rfl HOD.out (W2.heap.size + 1) (some ⟨W2.heap.size, 0, none⟩) 3 3 [.int .u64 (st : Int), .int .u64 (s2 : Int), .int .u64 (s3 : Int)] rfl ?q5 ?q6 ?q2 ?q3 ?q4 ?_; (case q5 => exact row_reads_at _ _ rfl _ 3 1 23 _ rfl rfl); (case q6 => (intro u hu; simp at hu; rcases hu with rfl | rfl | rfl <;> rfl)); (case q2 => (unfold maxLen; omega)); (case q3 => omega); (case q4 => (have := HB2.out.size; simp; omega)); intro A3 n3 c3 w8 hn3 ho3 hg3 hb3; have HN3 := Lib.hid hn3; have HO3 := Lib.hid ho3; have HB3 := Lib.hid (HBD.out.trans hb3); clear hn3 ho3 hg3 hb3; refine stop ?_)
      unfold Stop
      have HN4 : Hid (n3 = 3 * (k + 1)) := Lib.hid (by have := HN3.out; omega)
      have HO4 : Hid (w8.ownsRow w.heap.size 23 1 (.slice A3 n3 c3) n3 (uCells (stL (l.take (k + 1))))) := Lib.hid (by
        have h := HO3.out
        have e : [Value.int .u64 (st : Int), .int .u64 (s2 : Int), .int .u64 (s3 : Int)] = uCells (stm st) := by rw [HT3.out]; rfl
        rw [e, HT.out] at h
        exact h)
      clear HO3 HN3
      go_wp2
      go_roundw
      case rel =>
        first
          | exact ⟨k + 1, n3, _, _, by omega, HN4.out, by go_num, rfl, HO4, HB3⟩
          | (repeat apply Exists.intro
             refine ⟨?_, rfl⟩
             exact ⟨k + 1, n3, _, _, by omega, HN4.out, by go_num, rfl, HO4, HB3⟩)
      case measure => simp [Go.RowKit.intOf]; omega
    · obtain rfl : n = k := by omega
      subst hm
      go_wp2
      go_ret
      refine ⟨_, _, rfl, ?_, H.out⟩
      have h := HO.out
      rw [List.take_of_length_le (Nat.le_of_eq HL.out)] at h
      exact h
end Go.Proofs.YtnlokpakiambaaaGreatDoor
namespace Go.Proofs.YtnlokpakiambaaaGreatDoor
open Go.RowKit Go.Maps
theorem Reads.takeR {w : World} {B size n m : Nat} {A : Option Addr} {xs : List Value} (h : Reads w B size A n xs) (hm : m ≤ n) : Reads w B size A m (xs.take (m * size)) := by
  obtain ⟨h1, h2⟩ := h
  have h3 : m * size ≤ n * size := Nat.mul_le_mul_right _ hm
  refine ⟨by rw [List.length_take]; omega, fun hp => ?_⟩
  obtain ⟨ad, e, hb, hc⟩ := h2 (by omega)
  refine ⟨ad, e, hb, fun j u hu => hc j u ?_⟩
  rw [List.getElem?_take] at hu
  split at hu
  · exact hu
  · cases hu
theorem rvCells_take : ∀ (l : List RV) (m : Nat), m ≤ l.length → (rvCells l).take (m * 5) = rvCells (l.take m)
  | l, 0, _ => by simp [rvCells]
  | [], m + 1, h => absurd h (by simp)
  | r :: l, m + 1, h => by
    have ih := rvCells_take l m (by simpa using h)
    show (r.cells ++ rvCells l).take ((m + 1) * 5) = r.cells ++ rvCells (l.take m)
    rw [← ih, show (m + 1) * 5 = r.cells.length + m * 5 by show (m + 1) * 5 = 5 + m * 5; omega, List.take_length_add_append]
def refAt (x : Nat) (l : List VV) : Nat × Nat := match l[newI x l]? with
  | some v => if v.dl = true then (0, 5) else (newI x l, 0)
  | none => (0, 5)
set_option maxRecDepth 100000
set_option maxHeartbeats 4000000
theorem refAt_any (A : Option Addr) (n c : Nat) (l : List RV) (x : Nat) (w : World) (hr : Reads w w.heap.size 5 A n (rvCells l)) (hn : n ≤ 100000) (hc : n ≤ c) (hd : Desc l) :
    Calls Tryz.prog 16 #[.slice A n c, .int .u64 (x : Int)] w fun e w' => e = .returned (.tuple #[.int .i64 ((refAt x (vvs l)).1 : Int), .int .i64 ((refAt x (vvs l)).2 : Int)]) ∧ Below w.heap.size w w' := by
  have hl := rv_len hr
  have HNw := Lib.hid (newest_any A n c l x w hr hn)
  have HIl := newI_le x (vvs l)
  have hvl : (vvs l).length = n := by unfold vvs; rw [List.length_map, hl]
  rw [hvl] at HIl
  have HRef : Hid (refAt x (vvs l) = match (vvs l)[newI x (vvs l)]? with | some v => if v.dl = true then (0, 5) else (newI x (vvs l), 0) | none => (0, 5)) := Lib.hid rfl
  generalize refAt x (vvs l) = R at *
  generalize newI x (vvs l) = i at *
  have HR := Lib.hid hr
  by_cases hi : i < n
  · obtain ⟨hil, gb, go, hA3, _, f0, f1, f2, f3, f4⟩ := rv_facts hr hi
    have HRf : Hid (R = if (l[i]).v.dl = true then (0, 5) else (i, 0)) := Lib.hid (by
      rw [HRef.out, List.getElem?_eq_getElem (by rw [hvl]; exact hi)]
      unfold vvs
      rw [List.getElem_map])
    have HDs : Hid (∀ W, Below w.heap.size w W → Calls Tryz.prog 58 #[.slice A (i + 1) c] W fun e w' => e = .returned (.bool true) ∧ Below W.heap.size W w') := Lib.hid (fun W hW => by
      refine descends_any A (i + 1) c (l.take (i + 1)) W ?_ (by omega) (hd.take _)
      have h1 := ((hr.below hW).more hW.size).takeR (m := i + 1) (by omega)
      rw [rvCells_take l (i + 1) (by omega)] at h1
      exact h1)
    generalize l[i] = r at *
    obtain ⟨v, B, nb, cb, D, nd, cd⟩ := r
    obtain ⟨st, dl, q, bl, p⟩ := v
    dsimp only at f0 f1 f2 f3 f4 HRf
    subst hA3
    have e1 : wrap64 ((i : Int) + 1) = ((i + 1 : Nat) : Int) := by rw [IntWalk.wrap64_in _ (by omega)]; omega
    have e2 : min ((i : Int) + 1) (n : Int) = (i : Int) + 1 := by omega
    have e3 : min (((i + 1 : Nat)) : Int) (n : Int) = ((i + 1 : Nat) : Int) := by omega
    have e4 : ((i : Int) == (n : Int)) = false := beq_eq_false_iff_ne.2 (by omega)
    have hz0 : (0 : Int) ≤ (i : Int) := by omega
    have hz1 : (i : Int) < (n : Int) := by omega
    clear hr hl hd hvl HIl HRef hil
    go_enter Tryz.func16, Tryz.ntmps16
    go_upto_region 2 with (go_at_call 57; refine HNw.out.mono ?_; rintro e w1 ⟨rfl, hb1⟩; have HB1 := Lib.hid hb1; clear hb1; refine stop ?_)
    unfold Stop
    have HD1 := Lib.hid (HDs.out w1 HB1.out)
    have d1 : ¬ (n : Int) < (i : Int) + 1 := by omega
    have d2 : ((i : Int) + 1).toNat = i + 1 := by omega
    have d3 : (i : Int) + 1 ≤ (c : Int) := by omega
    have d4 : (0 : Int) ≤ (i : Int) + 1 := by omega
    go_wp2_with (go_at_call 58; refine HD1.out.mono ?_; rintro e w2 ⟨rfl, hb2⟩; have HB2 := Lib.hid (HB1.out.trans (hb2.mono HB1.out.size)); clear hb2; refine stop ?_)
    unfold Stop
    obtain ⟨hil2, gb2, go2, hA2, _, -, k1, -, -, -⟩ := rv_facts ((HR.out.below HB2.out).more HB2.out.size) hi
    injection hA2 with e5
    injection e5 with e5 e6
    subst e5 e6
    have k1' : w2.cell? ⟨gb, go + i * 5 + 1, none⟩ = some (.bool dl) := by
      have h1 := HB2.out.cell (p := ⟨gb, go + i * 5 + 1, none⟩) (by assumption)
      exact h1.trans f1
    clear k1 hil2 d1 d2 d3 d4 f0 f1 f2 f3 f4 e1 e2 e3
    cases dl
    · have HF : Hid (R = (i, 0)) := Lib.hid (by rw [HRf.out, if_neg (by decide)])
      go_wp2
      go_ret2
      rw [HF.out]
      exact ⟨rfl, HB2.out⟩
    · have HF : Hid (R = (0, 5)) := Lib.hid (by rw [HRf.out, if_pos rfl])
      go_wp2
      go_ret2
      rw [HF.out]
      exact ⟨rfl, HB2.out⟩
  · have hin : i = n := by omega
    have HRf : Hid (R = (0, 5)) := Lib.hid (by
      rw [HRef.out, List.getElem?_eq_none (by rw [hvl]; omega)])
    have HDs : Hid (∀ W, Below w.heap.size w W → Calls Tryz.prog 58 #[.slice A n c] W fun e w' => e = .returned (.bool true) ∧ Below W.heap.size W w') := Lib.hid (fun W hW => descends_any A n c l W ((hr.below hW).more hW.size) hn hd)
    subst hin
    have d1 : (i : Int) < (i : Int) + 1 := by omega
    have d2 : ((i : Int) == (i : Int)) = true := beq_self_eq_true _
    have d3 : (i : Int) ≤ (c : Int) := by omega
    have e1 : wrap64 ((i : Int) + 1) = (i : Int) + 1 := by rw [IntWalk.wrap64_in _ (by omega)]
    clear hr hl hd hvl HIl HRef hi
    go_enter Tryz.func16, Tryz.ntmps16
    go_upto_region 2 with (go_at_call 57; refine HNw.out.mono ?_; rintro e w1 ⟨rfl, hb1⟩; have HB1 := Lib.hid hb1; clear hb1; refine stop ?_)
    unfold Stop
    have HD1 := Lib.hid (HDs.out w1 HB1.out)
    go_wp2_with (go_at_call 58; refine HD1.out.mono ?_; rintro e w2 ⟨rfl, hb2⟩; have HB2 := Lib.hid (HB1.out.trans (hb2.mono HB1.out.size)); clear hb2)
    go_ret2
    rw [HRf.out]
    exact ⟨rfl, HB2.out⟩
end Go.Proofs.YtnlokpakiambaaaGreatDoor
namespace Go.Proofs.YtnlokpakiambaaaGreatDoor
open Go.RowKit Go.Maps
theorem at_cases (rl : List RV) (x : Nat) : (atV x (vvs rl) = (5, 0, false, 0, 0) ∧ refAt x (vvs rl) = (0, 5)) ∨ ∃ (i : Nat) (h : i < rl.length), atV x (vvs rl) = (0, (rl[i]).v.st, false, (rl[i]).v.dt, hdQ (vvs (rl.drop (i + 1)))) ∧ refAt x (vvs rl) = (i, 0) ∧ (rl[i]).v.dl = false := by
  obtain ⟨i, hi⟩ : ∃ i, newI x (vvs rl) = i := ⟨_, rfl⟩
  unfold atV refAt
  rw [hi]
  cases hv : (vvs rl)[i]? with
  | none => exact .inl ⟨rfl, rfl⟩
  | some v =>
    have hv2 := hv
    unfold vvs at hv2
    rw [List.getElem?_map] at hv2
    cases hr : rl[i]? with
    | none => rw [hr] at hv2; cases hv2
    | some r =>
      rw [hr] at hv2
      injection hv2 with hv2
      obtain ⟨h1, h2⟩ := List.getElem?_eq_some_iff.1 hr
      cases hd : v.dl with
      | true => exact .inl ⟨by show (if v.dl = true then _ else _) = _; rw [if_pos hd], by show (if v.dl = true then _ else _) = _; rw [if_pos hd]⟩
      | false =>
        refine .inr ⟨i, h1, ?_, by show (if v.dl = true then _ else _) = _; rw [hd, if_neg (by decide)], by rw [h2, hv2]; exact hd⟩
        show (if v.dl = true then _ else _) = _
        rw [hd, if_neg (by decide), h2, hv2]
        show (0, v.st, false, v.dt, hdQ ((vvs rl).drop (i + 1))) = _
        unfold vvs
        rw [List.map_drop]
section
variable {w : World}
set_option maxRecDepth 100000
set_option maxHeartbeats 8000000
theorem versionAt_law (A : Option Addr) (n c : Nat) (l : List DR) (stamp : Nat) (w : World) (hin : DrsIn w A n c l) (hst : stamp < 18446744073709551616) (ht : Tab w) (hpy : Pay w) :
    Calls Tryz.prog 3 #[.slice A n c, .int .u64 (stamp : Int)] w fun e w' => e = .returned (.bool true) ∧ Below w.heap.size w w' := by
  have HAw := Lib.hid (vawake_any w ht hpy)
  have HBg : Hid (∀ W, Below w.heap.size w W → Calls Tryz.prog 12 #[.slice A n c] W fun e w' => ∃ gh : Nat, e = .returned (.pointer (some ⟨gh, 0, none⟩)) ∧ Hid (BgS W l (min n 8) gh w')) := Lib.hid (fun W hW => vbegin_any A n c l ⟨(hin.1.below hW).more hW.size, hin.2.1, hin.2.2.1, fun r hr => (hin.2.2.2 r hr).below hW⟩ (ht.below hW) (hpy.below hW))
  have HSt := Lib.hid hst
  clear hin ht hpy hst
  go_enter Tryz.func3, Tryz.ntmps3
  go_wp2_with (first
    | (go_at_call 11; refine HAw.out.mono ?_; rintro e w1 ⟨rfl, hb1⟩; have HB1 := Lib.hid hb1; clear hb1)
    | (go_at_call 12; refine (HBg.out w1 HB1.out).mono ?_; rintro e w2 ⟨gh, rfl, hbg⟩; have HBS := Lib.hid hbg.out; clear hbg; refine stop ?_))
  unfold Stop
  obtain ⟨rl, z, hj, hbgis, -⟩ := HBS.out
  have hl8 : rl.length ≤ 8 := by rw [hbgis.1]; exact Nat.min_le_right _ _
  have HV := Lib.hid (hvC_of hj hl8)
  have HB2 := Lib.hid (HB1.out.trans (hj.below.mono HB1.out.size))
  have HL8 := Lib.hid hl8
  generalize z.y.g = gw at HV
  generalize z.y.d = d at HV
  obtain ⟨Al, nl, cl, hnl, hcl, hn8, hl⟩ := HV.out.h1
  obtain ⟨head, hhead⟩ : ∃ head, hdQ (vvs rl) = head := ⟨_, rfl⟩
  have HHd := Lib.hid hhead
  have HLk := Lib.hid HV.out.lk
  rw [hhead] at HLk
  have HF0 := Lib.hid HV.out.h0
  have HF3 := Lib.hid HV.out.h3
  have HF1 := Lib.hid hl
  have HNl := Lib.hid (show nl = rl.length ∧ nl ≤ cl ∧ nl ≤ 8 from ⟨hnl, hcl, hn8⟩)
  have HSm : Hid (∀ W, Below w2.heap.size w2 W → Calls Tryz.prog 14 #[.slice Al nl cl] W fun e w' => ∃ A' m c', e = .returned (.slice A' m c') ∧ Hid (m = 3 * nl ∧ w'.ownsRow W.heap.size 23 1 (.slice A' m c') m (uCells (stL rl)) ∧ Below W.heap.size W w')) := Lib.hid (fun W hW => (stamps_any Al nl cl rl W (hl W hW).2 (by omega) HV.out.sp).mono (fun e w' h => by
    obtain ⟨A', c', h1, h2, h3⟩ := h
    exact ⟨A', _, c', h1, Lib.hid ⟨rfl, h2, h3⟩⟩))
  clear HAw HBg HB1 HBS hj hbgis hl8 hnl hcl hn8 hl hhead
  have f0 := HF0.out w2 (Below.refl _ _)
  have f1 := (HF1.out w2 (Below.refl _ _)).1
  go_wp2_with (go_at_call 13; refine (HLk.out w2 (Below.refl _ _)).mono ?_; rintro e w3 ⟨rfl, hw3⟩; have HB3 : Hid (Below w2.heap.size w2 w3) := Lib.hid (by rw [hw3]; exact (Below.refl _ _).drew); clear hw3; refine stop ?_)
  unfold Stop
  clear f0 f1
  have hb4 : Below w3.heap.size w3 (w3.alloc (.cells #[.int .u64 (stamp : Int), .int .u64 0, .int .u64 4611686018427387904, .int .u64 18446744073709551615] 23)) := (Below.refl _ _).alloc (Nat.le_refl _) _
  have HB4 := Lib.hid (HB3.out.trans (hb4.mono HB3.out.size))
  have HO4 : Hid ((w3.alloc (.cells #[.int .u64 (stamp : Int), .int .u64 0, .int .u64 4611686018427387904, .int .u64 18446744073709551615] 23)).ownsRow w3.heap.size 23 1 (.slice (some ⟨w3.heap.size, 0, none⟩) 4 4) 4 (uCells [stamp, 0, 4611686018427387904, 18446744073709551615])) := Lib.hid ⟨rfl, .inr ⟨w3.heap.size, 4, #[.int .u64 (stamp : Int), .int .u64 0, .int .u64 4611686018427387904, .int .u64 18446744073709551615], rfl, Nat.le_refl _, heap_alloc_new _ _, Nat.le_refl _, by unfold maxLen; omega, rfl, rfl⟩⟩
  have HS34 := Lib.hid hb4.size
  clear hb4
  have f1 := (HF1.out _ HB4.out).1
  have f3 := (HF1.out w3 HB3.out).1
  obtain ⟨i0, hi0, hz0, hz1, hz2⟩ := info_parts infoU64
  go_upto_region 7 with fail
  go_wp2_with (go_at_call 14; refine (HSm.out _ HB4.out).mono ?_; rintro e w5 ⟨A5, m5, c5, rfl, h5⟩; have H5 := Lib.hid h5.out; clear h5; refine stop ?_)
  unfold Stop
  have HB5 := Lib.hid (HB4.out.trans (H5.out.2.2.mono HB4.out.size))
  have HO5 := Lib.hid (own_below HO4.out H5.out.2.2)
  have HM5 : Hid (m5 ≤ 24) := Lib.hid (by have h1 := H5.out.1; have h2 := HNl.out; omega)
  clear f1 f3
  go_wp2_with (at_builtin; refine wpList_app _ (.tmp 25) (.tmp 30) 33 rfl rfl w3.heap.size 23 i0 _ 1 8 Tryz.underlying33 hi0 hz0 hz1 hz2 rfl Nat.one_pos (.slice (some ⟨w3.heap.size, 0, none⟩) 4 4) 4 (uCells [stamp, 0, 4611686018427387904, 18446744073709551615]) rfl HO5.out _ A5 m5 c5 (uCells (stL rl)) rfl (Reads.of_own H5.out.2.1) (uCells_one _) ?q1 ?q2 ?q3 ?_; (case q1 => (have := HM5.out; unfold maxLen; omega)); (case q2 => (have := HM5.out; omega)); (case q3 => (have h1 := HS34.out; have h2 := H5.out.2.2.size; omega)); intro A6 n6 c6 w6 hn6 ho6 hg6 hb6; have HN6 := Lib.hid hn6; have HO6 := Lib.hid ho6; have HB6 := Lib.hid hb6; clear hn6 ho6 hg6 hb6; refine stop ?_)
  unfold Stop
  obtain ⟨xs, hxs⟩ : ∃ xs, [stamp, 0, 4611686018427387904, 18446744073709551615] ++ stL rl = xs := ⟨_, rfl⟩
  have HX6 : Hid (Reads w6 w6.heap.size 1 A6 n6 (uCells xs)) := Lib.hid (by
    have h := Reads.of_own HO6.out
    rw [← uCells_app, hxs] at h
    exact h)
  have HB6' : Hid (Below w2.heap.size w2 w6) := Lib.hid (HB3.out.trans (by
    have h5 : Below w3.heap.size w3 w5 := ((Below.refl _ w3).alloc (Nat.le_refl _) _).trans (H5.out.2.2.mono HS34.out)
    exact (h5.trans HB6.out).mono HB3.out.size))
  have HN6' : Hid (n6 ≤ 28) := Lib.hid (by have h1 := HN6.out; have h2 := HM5.out; omega)
  clear H5 HO4 HO5 HO6 HN6 HB6 hxs HM5 HB4 HB5
  go_wp2_with fail
  go_loopw [33] (fun v wr => ∃ k : Nat, k ≤ n6 ∧ v = .int .i64 (k : Int) ∧ Hid (Below w6.heap.size w6 wr)) (fun v _ => n6 - (Go.RowKit.intOf v).toNat)
  case atStart => exact ⟨0, Nat.zero_le _, rfl, Lib.hid (Below.refl _ _)⟩
  case round =>
    obtain ⟨k, hk, rfl, HB6r⟩ := hrel
    have HB : Hid (Below w2.heap.size w2 wr) := Lib.hid (HB6'.out.trans (HB6r.out.mono HB6'.out.size))
    by_cases hlt : k < n6
    · obtain ⟨hkl, gb, go, hA3, _, fk⟩ := u_facts ((HX6.out.below HB6r.out).more HB6r.out.size) (k := k) hlt
      subst hA3
      generalize xs[k] = x at *
      have hz5 : (0 : Int) ≤ (k : Int) := by omega
      have hz6 : (k : Int) < (n6 : Int) := by omega
      have hk28 : k ≤ 28 := by have := HN6'.out; omega
      have f0 := HF0.out wr HB.out
      have f3 := HF3.out wr HB.out
      rcases at_cases rl x with ⟨hat, href⟩ | ⟨i, hi, hat, href, hdl⟩
      · clear hkl
        have HA : Hid (Calls Tryz.prog 15 #[.iface 43 (.pointer (some ⟨d, 0, none⟩)), .int .u64 (head : Int), .int .u64 (x : Int)] wr fun e w' => e = .returned (.tuple #[.agg #[.int .u64 0, .bool false, .int .u64 0, .int .u64 0], .int .i64 5]) ∧ Below wr.heap.size wr w') := Lib.hid (by
          have h := HV.out.at_ wr HB.out x
          rw [hat, HHd.out] at h
          exact h)
        have HRf : Hid (∀ W, Below w2.heap.size w2 W → Calls Tryz.prog 16 #[.slice Al nl cl, .int .u64 (x : Int)] W fun e w' => e = .returned (.tuple #[.int .i64 0, .int .i64 5]) ∧ Below W.heap.size W w') := Lib.hid (fun W hW => by
          have h := refAt_any Al nl cl rl x W (HF1.out W hW).2 (by have := HNl.out; omega) HNl.out.2.1 HV.out.desc
          rw [href] at h
          exact h)
        clear hat href
        go_wp2_with (go_at_call 15; refine HA.out.mono ?_; rintro e w8 ⟨rfl, hb8⟩; have HB8 := Lib.hid (HB.out.trans (hb8.mono HB.out.size)); have HC8 := Lib.hid (HB6r.out.trans (hb8.mono HB6r.out.size)); clear hb8; refine stop ?_)
        unfold Stop
        clear f0 f3 fk
        obtain ⟨W8, hW8⟩ : ∃ W8, w8.alloc (.cells #[.int .u64 0, .bool false, .int .u64 0, .int .u64 0] 36) = W8 := ⟨_, rfl⟩
        have hn8 := Blk.new w8 36 #[.int .u64 0, .bool false, .int .u64 0, .int .u64 0]
        have hb8 := HB8.out.alloc HB8.out.size (.cells #[.int .u64 0, .bool false, .int .u64 0, .int .u64 0] 36)
        have hc8 := HC8.out.alloc HC8.out.size (.cells #[.int .u64 0, .bool false, .int .u64 0, .int .u64 0] 36)
        rw [hW8] at hn8 hb8 hc8
        have HC8' := Lib.hid hc8
        have HW8 := Lib.hid hW8
        have HN8 := Lib.hid hn8
        have HB8' := Lib.hid hb8
        have f0 := HF0.out W8 hb8
        have f1 := (HF1.out W8 hb8).1
        have HRf8 := Lib.hid (HRf.out W8 hb8)
        clear hW8 hn8 hb8 hc8
        go_upto_region 11 with fail
        rw [HW8.out]
        go_wp2_with (go_at_call 16; refine HRf8.out.mono ?_; rintro e w9 ⟨rfl, hb9⟩; have HB9 := Lib.hid (HB8'.out.trans (hb9.mono HB8'.out.size)); have HN9 := Lib.hid (HN8.out.below hb9 HN8.out.lt); have HBn := Lib.hid (HC8'.out.trans (hb9.mono HC8'.out.size)); clear hb9; refine stop ?_)
        unfold Stop
        clear f0 f1
        have v0 : w9.cell? ⟨w8.heap.size, 0, none⟩ = _ := HN9.out.cell 0
        have v1 : w9.cell? ⟨w8.heap.size, 1, none⟩ = _ := HN9.out.cell 1
        have v2 : w9.cell? ⟨w8.heap.size, 2, none⟩ = _ := HN9.out.cell 2
        have v3 : w9.cell? ⟨w8.heap.size, 3, none⟩ = _ := HN9.out.cell 3
        go_wp2_with fail
        go_roundw
        case rel =>
          first
            | exact ⟨k + 1, by omega, by go_num, HBn⟩
            | (repeat apply Exists.intro
               refine ⟨?_, rfl⟩
               exact ⟨k + 1, by omega, by go_num, HBn⟩)
        case measure => simp [Go.RowKit.intOf]; omega
      · clear hkl
        obtain ⟨st, hst⟩ : ∃ st, (rl[i]).v.st = st := ⟨_, rfl⟩
        obtain ⟨dt, hdt⟩ : ∃ dt, (rl[i]).v.dt = dt := ⟨_, rfl⟩
        obtain ⟨ol, hol⟩ : ∃ ol, hdQ (vvs (rl.drop (i + 1))) = ol := ⟨_, rfl⟩
        rw [hst, hdt, hol] at hat
        have HA : Hid (Calls Tryz.prog 15 #[.iface 43 (.pointer (some ⟨d, 0, none⟩)), .int .u64 (head : Int), .int .u64 (x : Int)] wr fun e w' => e = .returned (.tuple #[.agg #[.int .u64 (st : Int), .bool false, .int .u64 (dt : Int), .int .u64 (ol : Int)], .int .i64 0]) ∧ Below wr.heap.size wr w') := Lib.hid (by
          have h := HV.out.at_ wr HB.out x
          rw [hat, HHd.out] at h
          exact h)
        have HRf : Hid (∀ W, Below w2.heap.size w2 W → Calls Tryz.prog 16 #[.slice Al nl cl, .int .u64 (x : Int)] W fun e w' => e = .returned (.tuple #[.int .i64 (i : Int), .int .i64 0]) ∧ Below W.heap.size W w') := Lib.hid (fun W hW => by
          have h := refAt_any Al nl cl rl x W (HF1.out W hW).2 (by have := HNl.out; omega) HNl.out.2.1 HV.out.desc
          rw [href] at h
          exact h)
        have HSa : Hid (∀ W, Below w2.heap.size w2 W → Calls Tryz.prog 17 #[.pointer (some ⟨gh, 0, none⟩), .agg #[.int .u64 (st : Int), .bool false, .int .u64 (dt : Int), .int .u64 (ol : Int)], .int .i64 (i : Int)] W fun e w' => e = .returned (.bool true) ∧ Below W.heap.size W w') := Lib.hid (fun W hW => by
          have h := HV.out.same W hW i hi false dt ol hdl.symm hdt.symm hol.symm
          rw [hst] at h
          exact h)
        clear hst hdt hol hdl hi
        clear hat href
        go_wp2_with (go_at_call 15; refine HA.out.mono ?_; rintro e w8 ⟨rfl, hb8⟩; have HB8 := Lib.hid (HB.out.trans (hb8.mono HB.out.size)); have HC8 := Lib.hid (HB6r.out.trans (hb8.mono HB6r.out.size)); clear hb8; refine stop ?_)
        unfold Stop
        clear f0 f3 fk
        obtain ⟨W8, hW8⟩ : ∃ W8, w8.alloc (.cells #[.int .u64 (st : Int), .bool false, .int .u64 (dt : Int), .int .u64 (ol : Int)] 36) = W8 := ⟨_, rfl⟩
        have hn8 := Blk.new w8 36 #[.int .u64 (st : Int), .bool false, .int .u64 (dt : Int), .int .u64 (ol : Int)]
        have hb8 := HB8.out.alloc HB8.out.size (.cells #[.int .u64 (st : Int), .bool false, .int .u64 (dt : Int), .int .u64 (ol : Int)] 36)
        have hc8 := HC8.out.alloc HC8.out.size (.cells #[.int .u64 (st : Int), .bool false, .int .u64 (dt : Int), .int .u64 (ol : Int)] 36)
        rw [hW8] at hn8 hb8 hc8
        have HC8' := Lib.hid hc8
        have HW8 := Lib.hid hW8
        have HN8 := Lib.hid hn8
        have HB8' := Lib.hid hb8
        have f0 := HF0.out W8 hb8
        have f1 := (HF1.out W8 hb8).1
        have HRf8 := Lib.hid (HRf.out W8 hb8)
        clear hW8 hn8 hb8 hc8
        go_upto_region 11 with fail
        rw [HW8.out]
        go_wp2_with (go_at_call 16; refine HRf8.out.mono ?_; rintro e w9 ⟨rfl, hb9⟩; have HB9 := Lib.hid (HB8'.out.trans (hb9.mono HB8'.out.size)); have HN9 := Lib.hid (HN8.out.below hb9 HN8.out.lt); have HBn := Lib.hid (HC8'.out.trans (hb9.mono HC8'.out.size)); clear hb9; refine stop ?_)
        unfold Stop
        clear f0 f1
        have v0 : w9.cell? ⟨w8.heap.size, 0, none⟩ = _ := HN9.out.cell 0
        have v1 : w9.cell? ⟨w8.heap.size, 1, none⟩ = _ := HN9.out.cell 1
        have v2 : w9.cell? ⟨w8.heap.size, 2, none⟩ = _ := HN9.out.cell 2
        have v3 : w9.cell? ⟨w8.heap.size, 3, none⟩ = _ := HN9.out.cell 3
        have HS9 := Lib.hid (HSa.out w9 HB9.out)
        go_wp2_with (go_at_call 17; refine HS9.out.mono ?_; rintro e w10 ⟨rfl, hb10⟩; have HBn := Lib.hid (HBn.out.trans (hb10.mono HBn.out.size)); clear hb10)
        go_roundw
        case rel =>
          first
            | exact ⟨k + 1, by omega, by go_num, HBn⟩
            | (repeat apply Exists.intro
               refine ⟨?_, rfl⟩
               exact ⟨k + 1, by omega, by go_num, HBn⟩)
        case measure => simp [Go.RowKit.intOf]; omega
    · obtain rfl : n6 = k := by omega
      go_wp2
      go_ret
      exact ⟨rfl, HB2.out.trans (HB.out.mono HB2.out.size)⟩
end
end Go.Proofs.YtnlokpakiambaaaGreatDoor
