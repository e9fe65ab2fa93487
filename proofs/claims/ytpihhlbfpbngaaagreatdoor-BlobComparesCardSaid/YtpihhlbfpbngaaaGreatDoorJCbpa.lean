/- The walks and laws that the claim leans on, part 48. -/
import Derived.Test.YtpihhlbfpbngaaaGreatDoorJbu
namespace Go.Proofs.YtpihhlbfpbngaaaGreatDoor
open Go.RowKit Go.Maps
def cmpN : List Nat → List Nat → Int
  | [], [] => 0
  | [], _ :: _ => -1
  | _ :: _, [] => 1
  | a :: t, b :: t2 => if a < b then -1 else if b < a then 1 else cmpN t t2
theorem cmpN_self : ∀ l : List Nat, cmpN l l = 0
  | [] => rfl
  | a :: l => by unfold cmpN; rw [if_neg (Nat.lt_irrefl a), if_neg (Nat.lt_irrefl a)]; exact cmpN_self l
theorem cmpN_step {l l2 : List Nat} {k : Nat} (h1 : k < l.length) (h2 : k < l2.length) : cmpN (l.drop k) (l2.drop k) = if l[k] < l2[k] then -1 else if l2[k] < l[k] then 1 else cmpN (l.drop (k + 1)) (l2.drop (k + 1)) := by
  rw [List.drop_eq_getElem_cons h1, List.drop_eq_getElem_cons h2]
  rfl
def bI (l : List Nat) : List Int := l.map fun (b : Nat) => (b : Int)
theorem cmp_bytes : ∀ (l l2 : List Nat), (∀ b ∈ l, b < 256) → (∀ b ∈ l2, b < 256) → Lib.compareBytes (Lib.bytesOf (bI l)) (Lib.bytesOf (bI l2)) = cmpN l l2
  | [], [], _, _ => rfl
  | [], _ :: _, _, _ => rfl
  | _ :: _, [], _, _ => rfl
  | a :: l, b :: l2, h1, h2 => by
    have ih := cmp_bytes l l2 (fun x hx => h1 x (by simp [hx])) (fun x hx => h2 x (by simp [hx]))
    have ha := h1 a (by simp)
    have hb := h2 b (by simp)
    have hlt : ∀ x y : Nat, x < 256 → y < 256 → (UInt8.ofNat x < UInt8.ofNat y ↔ x < y) := fun x y hx hy => by
      rw [UInt8.lt_iff_toNat_lt, UInt8.toNat_ofNat_of_lt' hx, UInt8.toNat_ofNat_of_lt' hy]
    show (if UInt8.ofNat a < UInt8.ofNat b then (-1 : Int) else if UInt8.ofNat b < UInt8.ofNat a then 1 else Lib.compareBytes (Lib.bytesOf (bI l)) (Lib.bytesOf (bI l2))) = _
    rw [ih]
    show _ = (if a < b then (-1 : Int) else if b < a then 1 else cmpN l l2)
    simp only [hlt a b ha hb, hlt b a hb ha]
theorem run_bytesSl {P : Program} (w : World) {B n c : Nat} {A : Option Addr} {l : List Nat} (h : Reads w B 1 A n (u8s l)) : (Extern.Bytes.bytesOf (.slice A n c)).run P w = .ok ⟨(Lib.bytesOf (bI l)).toArray⟩ w := by
  have hl : l.length = n := by have := h.1; simp [u8s] at this; omega
  cases A with
  | none =>
    have h0 : n = 0 := by
      rcases Nat.eq_zero_or_pos n with h0 | h0
      · exact h0
      · obtain ⟨ad, hA, _⟩ := h.2 h0
        cases hA
    have hn : l = [] := List.eq_nil_of_length_eq_zero (by omega)
    subst hn
    rfl
  | some ad =>
    have h1 := Lib.run_loadBytesX (P := P) w (bI l) ad .empty (fun j x hj => by
      have hjl : j < n := by have := (List.getElem?_eq_some_iff.1 hj).1; simp [bI] at this; omega
      obtain ⟨ad', hA, _, hc⟩ := h.2 (by omega)
      injection hA with hA
      subst hA
      refine hc j _ ?_
      simp only [bI, List.getElem?_map, Option.map_eq_some_iff] at hj
      obtain ⟨z, hz, rfl⟩ := hj
      simp [u8s, hz])
    have h2 : (bI l).length = n := by simp [bI]; exact hl
    rw [h2] at h1
    have he : (⟨ByteArray.empty.data ++ (Lib.bytesOf (bI l)).toArray⟩ : ByteArray) = ⟨(Lib.bytesOf (bI l)).toArray⟩ := by
      apply ByteArray.ext
      show (#[] : Array UInt8) ++ (Lib.bytesOf (bI l)).toArray = (Lib.bytesOf (bI l)).toArray
      simp
    rw [he] at h1
    exact h1
theorem run_cmp {P : Program} (w : World) {B B2 n c n2 c2 : Nat} {A A2 : Option Addr} {l l2 : List Nat} (h : Reads w B 1 A n (u8s l)) (h2 : Reads w B2 1 A2 n2 (u8s l2)) (hl : ∀ b ∈ l, b < 256) (hl2 : ∀ b ∈ l2, b < 256) :
    (Extern.BytealgCompare.compare #[.slice A n c, .slice A2 n2 c2]).run P w = .ok (.int .i64 (cmpN l l2)) w := by
  change Sem.run P (do pure (goInt (Extern.BytealgCompare.cmp (← Extern.Bytes.bytesOf (.slice A n c)) (← Extern.Bytes.bytesOf (.slice A2 n2 c2))))) w = _
  simp only [Sem.run_bind, run_bytesSl w h, run_bytesSl w h2, Sem.run_pure, Result.andThen]
  rw [Lib.cmp_eq]
  show Result.ok (goInt (Lib.compareBytes (Lib.bytesOf (bI l)) (Lib.bytesOf (bI l2)))) w = _
  rw [cmp_bytes l l2 hl hl2]
  rfl
set_option maxRecDepth 100000 in
set_option maxHeartbeats 2000000 in
theorem bcmp_any (A A2 : Option Addr) (n c n2 c2 B B2 : Nat) (l l2 : List Nat) (w : World) (h : Reads w B 1 A n (u8s l)) (h2 : Reads w B2 1 A2 n2 (u8s l2)) (hl : ∀ b ∈ l, b < 256) (hl2 : ∀ b ∈ l2, b < 256) :
    Calls Tryz.prog 60 #[.slice A n c, .slice A2 n2 c2] w fun e w' => e = .returned (.int .i64 (cmpN l l2)) ∧ w = w' := by
  have hrun : ∀ W, W = w → (callFunc 144 #[.slice A n c, .slice A2 n2 c2]).run Tryz.prog W = .ok (.value (.int .i64 (cmpN l l2))) W := fun W hW => by
    subst hW
    rw [run_callFunc_extern Tryz.func144 (by kernel_rfl) (by kernel_rfl) (by kernel_rfl) (e := Extern.BytealgCompare.compare) (by kernel_rfl), run_cmp W h h2 hl hl2]
    rfl
  have hr := hrun w rfl
  generalize cmpN l l2 = r at *
  clear h h2 hl hl2 hrun
  go_enter Tryz.func60, Tryz.ntmps60
  go_wp2
  go_ret
  exact ⟨rfl, rfl⟩
section
variable {a : DA} {L T s n K : Nat} {x : HA} {cs : Nat → CS} {f : Nat → Option Nat} {N m b0 : Nat} {S : Fp} {cur : Nat → Nat} {w w' : World} {d r : Nat}
set_option maxRecDepth 100000
set_option maxHeartbeats 2000000
theorem bcompare_any (h : SD a L T s n K x cs f N m b0 S cur w d r) (p : Nat) (hp64 : p < 18446744073709551616) {bl by_ : List Nat} (hw : walkR L cur (fun q => chkR s K cs q 1) p = (0, bl, by_)) (hby : ∀ b ∈ by_, b < 256) (A : Option Addr) (n0 c0 : Nat) (l : List Nat) (hr : Reads w w.heap.size 1 A n0 (u8s l)) (hl : ∀ b ∈ l, b < 256) :
    Calls Tryz.prog 15 #[dirV d, .int .u64 (p : Int), .slice A n0 c0] w fun e w' => e = .returned (.tuple #[.int .i64 (cmpN by_ l), .int .i64 0]) ∧ Below w.heap.size w w' := by
  have hW := walk_any h p hp64
  rw [hw] at hW
  have HW2 : Hid (Calls Tryz.prog 59 #[dirV d, .int .u64 (p : Int)] w fun e w' => ∃ (A1 : Option Addr) (m1 c1 : Nat) (A2 : Option Addr) (m2 c2 : Nat), e = .returned (.tuple #[.slice A1 m1 c1, .slice A2 m2 c2, .int .i64 0]) ∧ Hid (Reads w' w'.heap.size 1 A2 m2 (u8s by_) ∧ Below w.heap.size w w')) := Lib.hid (hW.mono (fun e w' h => by
    unfold RetWk at h
    rw [if_pos rfl] at h
    obtain ⟨A1, m1, c1, A2, m2, c2, h1, h2, h3, h4, h5, h6, h7, h8, h9⟩ := h
    exact ⟨A1, m1, c1, A2, m2, c2, h1, Lib.hid ⟨h5, h9⟩⟩))
  have HCm : Hid (∀ (W : World) (A2 : Option Addr) (m2 c2 : Nat), Reads W W.heap.size 1 A2 m2 (u8s by_) → Below w.heap.size w W → Calls Tryz.prog 60 #[.slice A2 m2 c2, .slice A n0 c0] W fun e w' => e = .returned (.int .i64 (cmpN by_ l)) ∧ W = w') := Lib.hid (fun W A2 m2 c2 hR hb => bcmp_any A2 A m2 c2 n0 c0 _ _ by_ l W hR (hr.below hb) hby hl)
  clear h hw hW hr
  generalize cmpN by_ l = z at *
  unfold dirV at *
  go_enter Tryz.func15, Tryz.ntmps15
  go_wp2_with (first
    | (go_at_call 59; refine HW2.out.mono ?_; rintro e w1 ⟨A1, m1, c1, A2, m2, c2, rfl, hh⟩; have HH := Lib.hid hh.out; clear hh)
    | (go_at_call 60; refine (HCm.out _ _ _ _ HH.out.1 HH.out.2).mono ?_; rintro e w2 ⟨rfl, rfl⟩))
  go_ret2
  exact ⟨rfl, HH.out.2⟩
end
set_option maxRecDepth 100000 in
set_option maxHeartbeats 2000000 in
theorem refCmp_any (A A2 : Option Addr) (n c n2 c2 : Nat) (l l2 : List Nat) (w : World) (h : Reads w w.heap.size 1 A n (u8s l)) (h2 : Reads w w.heap.size 1 A2 n2 (u8s l2)) (hn : n ≤ 2000) :
    Calls Tryz.prog 16 #[.slice A n c, .slice A2 n2 c2] w fun e w' => e = .returned (.int .i64 (cmpN l l2)) ∧ Below w.heap.size w w' := by
  have hl : l.length = n := by have := h.1; simp [u8s] at this; omega
  have hl2 : l2.length = n2 := by have := h2.1; simp [u8s] at this; omega
  have HR := Lib.hid h
  have HR2 := Lib.hid h2
  have HL := Lib.hid hl
  have HL2 := Lib.hid hl2
  obtain ⟨z, hz⟩ : ∃ z, cmpN l l2 = z := ⟨_, rfl⟩
  have HZ : Hid (cmpN (l.drop 0) (l2.drop 0) = z) := Lib.hid (by simpa using hz)
  rw [hz]
  clear h h2 hl hl2 hz
  go_enter Tryz.func16, Tryz.ntmps16
  go_wp2_with fail
  go_loopw [5] (fun i wr => ∃ k : Nat, k ≤ n ∧ k ≤ n2 ∧ i = .int .i64 (k : Int) ∧ Hid (cmpN (l.drop k) (l2.drop k) = z) ∧ Hid (Below w.heap.size w wr)) (fun i _ => n - (Go.RowKit.intOf i).toNat)
  case atStart => exact ⟨0, Nat.zero_le _, Nat.zero_le _, rfl, HZ, Lib.hid (Below.refl _ _)⟩
  case round =>
    clear HZ
    obtain ⟨k, hk, hk2, rfl, HZ, HB⟩ := hrel
    by_cases hlt : k < n ∧ k < n2
    · obtain ⟨hx1, b, off, hA, hbB, f0⟩ := b_facts (HR.out.below HB.out) hlt.1
      obtain ⟨hx2, b2, off2, hA2, hbB2, f2⟩ := b_facts (HR2.out.below HB.out) hlt.2
      have HS := Lib.hid (cmpN_step hx1 hx2)
      have hz5 : (0 : Int) ≤ (k : Int) := by omega
      have hz6 : (k : Int) < (n : Int) := by omega
      have hz7 : (k : Int) < (n2 : Int) := by omega
      have d1 : decide ((k : Int) < (n : Int)) = true := decide_eq_true hz6
      have d1n : decide (k < n) = true := decide_eq_true (by omega)
      have d2 : decide ((k : Int) < (n2 : Int)) = true := decide_eq_true hz7
      have d2n : decide (k < n2) = true := decide_eq_true (by omega)
      subst hA hA2
      generalize l[k] = u at *
      generalize l2[k] = v at *
      have hZ2 : (if u < v then (-1 : Int) else if v < u then 1 else cmpN (l.drop (k + 1)) (l2.drop (k + 1))) = z := HS.out.symm.trans HZ.out
      clear hlt
      rcases Nat.lt_trichotomy u v with hc | hc | hc
      · have d3 : decide ((u : Int) < (v : Int)) = true := decide_eq_true (by omega)
        have d3n : decide (u < v) = true := decide_eq_true (by omega)
        have HF : Hid (z = -1) := Lib.hid (by rw [if_pos hc] at hZ2; exact hZ2.symm)
        clear hZ2 hc
        go_upto_region 4 with fail
        go_quiet (fail)
        have HB2 := Lib.hid (below_drewN HB.out nq)
        go_wp2_with fail
        go_ret
        refine ⟨?_, HB2.out⟩
        rw [HF.out]
        rfl
      · have d3 : decide ((u : Int) < (v : Int)) = false := decide_eq_false (by omega)
        have d3n : decide (u < v) = false := decide_eq_false (by omega)
        have d4 : decide ((v : Int) < (u : Int)) = false := decide_eq_false (by omega)
        have d4n : decide (v < u) = false := decide_eq_false (by omega)
        have HF : Hid (cmpN (l.drop (k + 1)) (l2.drop (k + 1)) = z) := Lib.hid (by rw [if_neg (by omega), if_neg (by omega)] at hZ2; exact hZ2)
        clear hZ2 hc
        go_upto_region 4 with fail
        go_quiet (fail)
        have f0' : (wr.drewN nq).cell? ⟨b, off + k, none⟩ = some (.int .u8 (u : Int)) := f0
        have f2' : (wr.drewN nq).cell? ⟨b2, off2 + k, none⟩ = some (.int .u8 (v : Int)) := f2
        have HB1 := Lib.hid (below_drewN HB.out nq)
        clear f0 f2 HB
        generalize wr.drewN nq = wq at *
        go_upto_region 6 with fail
        go_quiet (fail)
        have HB2 := Lib.hid (below_drewN HB1.out nq)
        go_wp2_with fail
        go_roundw
        case rel =>
          first
            | exact ⟨k + 1, by omega, by omega, by go_num, HF, HB2⟩
            | (repeat apply Exists.intro
               refine ⟨?_, rfl⟩
               exact ⟨k + 1, by omega, by omega, by go_num, HF, HB2⟩)
        case measure => simp [Go.RowKit.intOf]; omega
      · have d3 : decide ((u : Int) < (v : Int)) = false := decide_eq_false (by omega)
        have d3n : decide (u < v) = false := decide_eq_false (by omega)
        have d4 : decide ((v : Int) < (u : Int)) = true := decide_eq_true (by omega)
        have d4n : decide (v < u) = true := decide_eq_true (by omega)
        have HF : Hid (z = 1) := Lib.hid (by rw [if_neg (by omega), if_pos hc] at hZ2; exact hZ2.symm)
        clear hZ2 hc
        go_upto_region 4 with fail
        go_quiet (fail)
        have f0' : (wr.drewN nq).cell? ⟨b, off + k, none⟩ = some (.int .u8 (u : Int)) := f0
        have f2' : (wr.drewN nq).cell? ⟨b2, off2 + k, none⟩ = some (.int .u8 (v : Int)) := f2
        have HB1 := Lib.hid (below_drewN HB.out nq)
        clear f0 f2 HB
        generalize wr.drewN nq = wq at *
        go_upto_region 6 with fail
        go_quiet (fail)
        have HB2 := Lib.hid (below_drewN HB1.out nq)
        go_wp2_with fail
        go_ret
        refine ⟨?_, HB2.out⟩
        rw [HF.out]
        rfl
    · have hcs : (k = n ∧ n < n2) ∨ (k = n ∧ n = n2) ∨ (k = n2 ∧ n2 < n) := by omega
      have hz := HZ.out
      rcases hcs with ⟨e1, e2⟩ | ⟨e1, e2⟩ | ⟨e1, e2⟩
      · have HF : Hid (z = -1) := Lib.hid (by
          rw [← hz, List.drop_of_length_le (by rw [HL.out]; omega), List.drop_eq_getElem_cons (show k < l2.length by rw [HL2.out]; omega)]
          rfl)
        have d1 : decide ((k : Int) < (n : Int)) = false := decide_eq_false (by omega)
        have d1n : decide (k < n) = false := decide_eq_false (by omega)
        have d3 : decide ((n : Int) < (n2 : Int)) = true := decide_eq_true (by omega)
        have d3n : decide (n < n2) = true := decide_eq_true (by omega)
        have d5 : (n : Int) < (n2 : Int) := by omega
        clear e1 e2 hlt hz hk hk2
        go_wp2_with fail
        go_ret
        refine ⟨?_, HB.out⟩
        rw [HF.out]
        rfl
      · have HF : Hid (z = 0) := Lib.hid (by
          rw [← hz, List.drop_of_length_le (by rw [HL.out]; omega), List.drop_of_length_le (by rw [HL2.out]; omega)]
          rfl)
        have d1 : decide ((k : Int) < (n : Int)) = false := decide_eq_false (by omega)
        have d1n : decide (k < n) = false := decide_eq_false (by omega)
        have d3 : decide ((n : Int) < (n2 : Int)) = false := decide_eq_false (by omega)
        have d3n : decide (n < n2) = false := decide_eq_false (by omega)
        have d4 : decide ((n2 : Int) < (n : Int)) = false := decide_eq_false (by omega)
        have d4n : decide (n2 < n) = false := decide_eq_false (by omega)
        clear e1 e2 hlt hz hk hk2
        go_wp2_with fail
        go_ret
        refine ⟨?_, HB.out⟩
        rw [HF.out]
        rfl
      · have HF : Hid (z = 1) := Lib.hid (by
          have e9 : l2.drop k = [] := List.drop_of_length_le (by rw [HL2.out]; omega)
          rw [← hz, e9, List.drop_eq_getElem_cons (show k < l.length by rw [HL.out]; omega)]
          rfl)
        have d1 : decide ((k : Int) < (n : Int)) = true := decide_eq_true (by omega)
        have d1n : decide (k < n) = true := decide_eq_true (by omega)
        have d1' : (k : Int) < (n : Int) := by omega
        have d2 : decide ((k : Int) < (n2 : Int)) = false := decide_eq_false (by omega)
        have d2n : decide (k < n2) = false := decide_eq_false (by omega)
        have d3 : decide ((n : Int) < (n2 : Int)) = false := decide_eq_false (by omega)
        have d3n : decide (n < n2) = false := decide_eq_false (by omega)
        have d4 : decide ((n2 : Int) < (n : Int)) = true := decide_eq_true (by omega)
        have d4n : decide (n2 < n) = true := decide_eq_true (by omega)
        have d5 : (n2 : Int) < (n : Int) := by omega
        clear e1 e2 hlt hz hk hk2
        go_wp2_with fail
        go_ret
        refine ⟨?_, HB.out⟩
        rw [HF.out]
        rfl
end Go.Proofs.YtpihhlbfpbngaaaGreatDoor
namespace Go.Proofs.YtpihhlbfpbngaaaGreatDoor
open Go.RowKit Go.Maps
set_option maxRecDepth 100000 in
set_option maxHeartbeats 4000000 in
theorem blobCompares_law (A : Option Addr) (n c : Nat) (l : List Nat) (A2 : Option Addr) (n2 c2 : Nat) (l2 : List Nat) (w : World) (hin : InB w A n c l) (hin2 : InB w A2 n2 c2 l2) (ht : Tab w) (hpy : Pay w) :
    Calls Tryz.prog 3 #[.slice A n c, .slice A2 n2 c2] w fun e w' => e = .returned (.bool true) ∧ Below w.heap.size w w' := by
  have HAw := Lib.hid (awakeB_any w ht hpy)
  have HIn := Lib.hid hin
  have HIn2 := Lib.hid hin2
  have HT := Lib.hid ht
  have HPy := Lib.hid hpy
  obtain ⟨k4, hk4⟩ : ∃ k4, min n 2000 = k4 := ⟨_, rfl⟩
  have hle := hin.le
  have m1 : min (n : Int) 2000 = (k4 : Int) := by omega
  have m2 : (k4 : Int) ≤ (c : Int) := by omega
  have m3 : (0 : Int) ≤ (k4 : Int) := by omega
  have m4 : (if (2000 : Int) < (n : Int) then (2000 : Int) else (n : Int)) = (k4 : Int) := by split <;> omega
  have HK := Lib.hid (show k4 ≤ 2000 ∧ k4 ≤ c ∧ min n 2000 = k4 from ⟨by omega, by omega, hk4⟩)
  have hln : l.length = n := by have := hin.r.1; simp [u8s] at this; omega
  have HLn : Hid ((l.take 2000).length = k4) := Lib.hid (by rw [List.length_take]; omega)
  have HBt : Hid (∀ z ∈ l.take 2000, z < 256) := Lib.hid (fun z hz => hin.b z (List.mem_of_mem_take hz))
  have HRt : Hid (Reads w w.heap.size 1 A k4 (u8s (l.take 2000))) := Lib.hid (by
    have h := Reads.take8 hin.r 2000
    rw [hk4, show (u8s l).take 2000 = u8s (l.take 2000) by simp [u8s]] at h
    exact h)
  obtain ⟨pl, hpl⟩ : ∃ pl, l.take 2000 = pl := ⟨_, rfl⟩
  rw [hpl] at HLn HBt HRt
  clear hin hin2 ht hpy hk4 hle hln hpl
  go_enter Tryz.func3, Tryz.ntmps3
  go_wp2_with (go_at_call 12; refine HAw.out.mono ?_; rintro e w1 ⟨rfl, hb1⟩; refine stop ?_)
  unfold Stop
  have HB1 := Lib.hid hb1
  have HBg := Lib.hid (beginB_any 3 (by omega) (by omega) w1 (HT.out.below hb1) (HPy.out.below hb1))
  rw [show ((3 : Nat) : Int) = 3 from rfl] at HBg
  clear hb1 HAw
  go_wp2_with (go_at_call 13; refine HBg.out.mono ?_; rintro e w2 ⟨a, T, x, y, S, rfl, hbw, hT, hb⟩; refine stop ?_)
  unfold Stop
  have HB2 := Lib.hid (HB1.out.trans (hb.mono HB1.out.size))
  have hold : ∀ k, sfp S x k → w.heap.size ≤ k := fun k hk => by
    obtain ⟨_, _, _, _, l5, l6, l7, l8⟩ := hbw.sd.ds.lo
    refine Nat.le_trans HB1.out.size ?_
    rcases hk with h | h
    · exact l8 k h
    · rcases h with h | h | h
      · rw [h]; exact l5
      · rw [h]; exact l6
      · rw [h]; exact l7
  have HOld := Lib.hid hold
  have HPut := Lib.hid (put_any hbw [] (Cap.new (fun _ _ => rfl)) 0 (by omega) A k4 c pl ((HRt.out.below HB2.out).more HB2.out.size) (fun h0 ad h hs => by
    have h1 := hold _ hs
    obtain ⟨ad', hA', hb', _⟩ := HRt.out.2 h0
    rw [h] at hA'
    injection hA' with hA'
    subst hA'
    omega) HBt.out HK.out.1 HK.out.2.1 HIn.out.cap (Nat.le_trans (room_one k4 HK.out.1) (by omega)) (by omega) (by omega))
  rw [show ((0 : Nat) : Int) = 0 from rfl] at HPut
  have HTT := Lib.hid hT
  clear hbw hT hb hold HBg
  go_wp2_with (go_at_call 14; refine HPut.out.mono ?_; intro e w3 h3; obtain ⟨q, A', m', c', rfl, hall⟩ := ret_putH h3; clear h3; refine stop ?_)
  unfold Stop
  obtain ⟨bl, cs2, f2, S2, cur2, hq, hm, hrd, had, hpp, hbw2, hch, hgr⟩ := hall.out
  have hq64 := hpp.head64.1
  rw [← hq] at hq64
  have hwk := hpp.walk HBt.out (by rw [HLn.out]; exact HK.out.1)
  rw [← hq] at hwk
  have HB3 := Lib.hid (HB2.out.trans (hch.toBelow HB2.out.size HOld.out))
  have HC1 : Hid (∀ W, Below w3.heap.size w3 W → Calls Tryz.prog 15 #[.iface 37 (.pointer (some ⟨y.d, 0, none⟩)), .int .u64 (q : Int), .slice A2 n2 c2] W fun e w' => e = .returned (.tuple #[.int .i64 (cmpN pl l2), .int .i64 0]) ∧ Below W.heap.size W w') := Lib.hid (fun W hW => bcompare_any (hbw2.sd.below hW) q hq64 hwk HBt.out A2 n2 c2 l2 ((HIn2.out.r.below (HB3.out.trans (hW.mono HB3.out.size))).more (HB3.out.trans (hW.mono HB3.out.size)).size) HIn2.out.b)
  have HC2 : Hid (∀ W, Below w3.heap.size w3 W → Calls Tryz.prog 15 #[.iface 37 (.pointer (some ⟨y.d, 0, none⟩)), .int .u64 (q : Int), .slice A k4 c] W fun e w' => e = .returned (.tuple #[.int .i64 0, .int .i64 0]) ∧ Below W.heap.size W w') := Lib.hid (fun W hW => by
    have h := bcompare_any (hbw2.sd.below hW) q hq64 hwk HBt.out A k4 c pl ((HRt.out.below (HB3.out.trans (hW.mono HB3.out.size))).more (HB3.out.trans (hW.mono HB3.out.size)).size) HBt.out
    rw [cmpN_self] at h
    exact h)
  have HRf : Hid (∀ W, Below w3.heap.size w3 W → Calls Tryz.prog 16 #[.slice A k4 c, .slice A2 n2 c2] W fun e w' => e = .returned (.int .i64 (cmpN pl l2)) ∧ Below W.heap.size W w') := Lib.hid (fun W hW => refCmp_any A A2 k4 c n2 c2 pl l2 W ((HRt.out.below (HB3.out.trans (hW.mono HB3.out.size))).more (HB3.out.trans (hW.mono HB3.out.size)).size) ((HIn2.out.r.below (HB3.out.trans (hW.mono HB3.out.size))).more (HB3.out.trans (hW.mono HB3.out.size)).size) HK.out.1)
  have HBw := Lib.hid hbw2.blk
  have g3 : w3.cell? ⟨y.g, 3, none⟩ = some (.pointer (some ⟨y.d, 0, none⟩)) := hbw2.blk.cell 3
  generalize cmpN pl l2 = z at *
  have dz : (z == z) = true := beq_self_eq_true z
  clear hall hq hm hrd had hpp hbw2 hch hgr hq64 hwk HPut HOld HB1 HB2
  go_wp2_with (go_at_call 15; refine (HC1.out _ (Below.refl _ _)).mono ?_; rintro e w4 ⟨rfl, hb4⟩; refine stop ?_)
  unfold Stop
  have HB4 := Lib.hid hb4
  have g34 : w4.cell? ⟨y.g, 3, none⟩ = some (.pointer (some ⟨y.d, 0, none⟩)) := (HBw.out.below hb4 HBw.out.lt).cell 3
  have HC3 := Lib.hid (HC2.out w4 hb4)
  clear hb4 g3 HC1 HC2
  go_wp2_with (first
    | (go_at_call 15; refine HC3.out.mono ?_; rintro e w5 ⟨rfl, hb5⟩; have HB5 := Lib.hid (HB4.out.trans (hb5.mono HB4.out.size)); clear hb5)
    | (go_at_call 16; refine (HRf.out _ HB5.out).mono ?_; rintro e w6 ⟨rfl, hb6⟩; have HB6 := Lib.hid (HB5.out.trans (hb6.mono HB5.out.size)); clear hb6))
  go_ret
  exact ⟨rfl, HB3.out.trans (HB6.out.mono HB3.out.size)⟩
end Go.Proofs.YtpihhlbfpbngaaaGreatDoor
