/- The walks and laws that the claim leans on, part 55. -/
import Derived.Test.YtpihhlbfpbngaaaGreatDoorJbu
namespace Go.Proofs.YtpihhlbfpbngaaaGreatDoor
open Go.RowKit
theorem lev_wb : ∀ (l : List Nat), (∀ b ∈ l, b < 256) → wb (lev l) l.length = l := fun l h => by
  apply List.ext_getElem
  · simp [wb]
  · intro i h1 h2
    have := lev_byte l h i h2
    simp [wb, this]
end Go.Proofs.YtpihhlbfpbngaaaGreatDoor
namespace Go.Proofs.YtpihhlbfpbngaaaGreatDoor
open Go.RowKit Go.Maps
section
variable {a : DA} {L T K : Nat} {x : HA} {y : WA} {cs : Nat → CS} {f : Nat → Option Nat} {N m b0 : Nat} {S : Fp} {cur : Nat → Nat} {w w' : World}
def RetSti (a : DA) (L T K : Nat) (x : HA) (y : WA) (cs : Nat → CS) (f : Nat → Option Nat) (N m b0 : Nat) (S : Fp) (cur : Nat → Nat) (w : World) (o v : Nat) (e : Ending) (w' : World) : Prop :=
  e = .returned (.tuple #[]) ∧ ∃ S', BW a L (T + 1) K x y cs f N m b0 S' (wrS cur [(o, v)]) w' ∧ Chg S w w' ∧ Grew S S' w
theorem BW.storeW (h : BW a L T K x y cs f N m b0 S cur w) {q k i : Nat} (hq : At 53 K cs q k i) {j v : Nat} (hj : j < payW (cs k).cl) (hv : v < 18446744073709551616) (hT : T < 1000000000) :
    Calls Tryz.prog 23 #[.pointer (some ⟨a.th 0, 0, none⟩), .int .u64 ((pOff q + 8 * j : Nat) : Int), .int .u64 (v : Int)] w (RetSti a L T K x y cs f N m b0 S cur w (pOff q + 8 * j) v) := by
  obtain ⟨h1, h2⟩ := hq.inL h.sd.ds
  have hl := hq.lines.1
  refine (store_dev h.sd.ds.dev (pOff q + 8 * j) v (by omega) (by omega) hT).mono ?_
  rintro e w' ⟨rfl, S', hd, hc, hg⟩
  refine ⟨rfl, S', ?_, hc, hg⟩
  have he : ∀ z, (∀ j, j < payW (cs k).cl → z ≠ 8 * (53 + 32 * k) + offB (cs k).cl i + 1 + j) → wrS cur [(pOff q + 8 * j, v)] z = cur z := fun z hz => wrS_other _ _ _ (fun e he => by
    simp at he
    subst he
    show (pOff q + 8 * j) / 8 ≠ z
    have := hz j hj
    omega)
  have hds := h.sd.ds.dev_ (cur' := wrS cur [(pOff q + 8 * j, v)]) hd hc hg (h.sd.ds.ok_pay hq.1 hq.2.1 rfl hq.2.2.1 (fun e he => by
    simp at he
    subst he
    exact ⟨j, hj, by show pOff q + 8 * j = _; rw [hq.2.2.2]; rfl⟩)) (wrS_bnd _ _ h.sd.ds.bnd (fun e he => by
    simp at he
    subst he
    exact hv))
  have hc2 : Chg (sfp S x) w w' := hc.mono (fun _ h => .inl h)
  have hsd := h.sd.keep hds hc2 hg (by rw [he _ (fun j _ => by omega)]; exact h.sd.idle)
  exact h.keep hsd hc2 hg (by rw [he _ (fun j _ => by omega)]; exact h.uid)
end
end Go.Proofs.YtpihhlbfpbngaaaGreatDoor
namespace Go.Proofs.YtpihhlbfpbngaaaGreatDoor.Crc
theorem step_shift (r s : Nat) : SN 8 (r ^^^ s) = step r (s % 256) ^^^ s / 256 := by
  rw [step_eq]
  have h := split_xor 8 s
  rw [show (2 : Nat) ^ 8 = 256 from rfl] at h
  have h2 := SN_shift 8 (s / 256)
  rw [show (2 : Nat) ^ 8 = 256 from rfl] at h2
  conv => lhs; rw [h]
  rw [Nat.xor_comm (256 * _), ← Nat.xor_assoc, SN_xor, h2]
theorem S_lt {x : Nat} (h : x < 4294967296) : S x < 4294967296 := by
  unfold S
  have hm : x % 2 = 0 ∨ x % 2 = 1 := by omega
  exact Nat.xor_lt_two_pow (n := 32) (by omega) (by rcases hm with hm | hm <;> rw [hm] <;> simp [poly])
theorem S_zero {x : Nat} (hx : x < 4294967296) (h : S x = 0) : x = 0 := by
  unfold S at h
  have h1 : x / 2 = x % 2 * poly := by
    have := congrArg (· ^^^ x % 2 * poly) h
    simpa [Nat.xor_assoc, Nat.xor_self] using this
  have hm : x % 2 = 0 ∨ x % 2 = 1 := by omega
  rcases hm with hm | hm
  · rw [hm] at h1; omega
  · rw [hm] at h1; simp only [poly] at h1; omega
theorem SN_zero_inv (n : Nat) {x : Nat} (hx : x < 4294967296) (h : SN n x = 0) : x = 0 := by
  induction n generalizing x with
  | zero => exact h
  | succ n ih => exact S_zero hx (ih (S_lt hx) h)
def flip (l : List Nat) (k : Nat) : List Nat := l.set (k / 8) (l.getD (k / 8) 0 ^^^ 2 ^ (k % 8))
def hits (n : Nat) (bit : Int) (pat j : Nat) : Prop := pat / 2 ^ j % 2 = 1 ∧ 0 ≤ bit + j ∧ bit + j < 8 * n
instance (n : Nat) (bit : Int) (pat j : Nat) : Decidable (hits n bit pat j) := by unfold hits; exact inferInstance
def burst (l : List Nat) (bit : Int) (pat : Nat) : Nat → List Nat
  | 0 => l
  | j + 1 => if hits l.length bit pat j then flip (burst l bit pat j) (bit + j).toNat else burst l bit pat j
theorem flip_len (l : List Nat) (k : Nat) : (flip l k).length = l.length := by simp [flip]
theorem burst_len (l : List Nat) (bit : Int) (pat j : Nat) : (burst l bit pat j).length = l.length := by
  induction j with
  | zero => rfl
  | succ j ih => simp only [burst]; split <;> simp [flip_len, ih]
theorem flip_bytes {l : List Nat} (hl : ∀ b ∈ l, b < 256) (k : Nat) : ∀ b ∈ flip l k, b < 256 := by
  intro b hb
  rcases List.mem_or_eq_of_mem_set hb with h | h
  · exact hl b h
  · rw [h]
    refine Nat.xor_lt_two_pow (n := 8) ?_ ?_
    · by_cases hk : k / 8 < l.length
      · simp only [List.getD, List.getElem?_eq_getElem hk, Option.getD_some]; exact hl _ (List.getElem_mem hk)
      · simp only [List.getD, List.getElem?_eq_none (show l.length ≤ k / 8 by omega), Option.getD_none]; omega
    · exact Nat.pow_lt_pow_right (by omega) (Nat.mod_lt _ (by omega))
theorem burst_bytes {l : List Nat} (hl : ∀ b ∈ l, b < 256) (bit : Int) (pat j : Nat) : ∀ b ∈ burst l bit pat j, b < 256 := by
  induction j with
  | zero => exact hl
  | succ j ih =>
    simp only [burst]; split
    · exact flip_bytes ih _
    · exact ih
theorem burst_out (l : List Nat) (bit : Int) (pat j : Nat) (hj : j ≤ 32) (h : bit < -31 ∨ 8 * (l.length : Int) ≤ bit) : burst l bit pat j = l := by
  induction j with
  | zero => rfl
  | succ j ih =>
    simp only [burst]
    rw [if_neg, ih (by omega)]
    unfold hits
    omega
theorem reg_lev : ∀ (d : List Nat) (r : Nat), (∀ b ∈ d, b < 256) → reg r d = SN (8 * d.length) (r ^^^ lev d)
  | [], r, _ => by simp [reg, lev, SN]
  | b :: d, r, h => by
    have hb := h b (by simp)
    have e1 : lev (b :: d) % 256 = b := by simp only [lev]; omega
    have e2 : lev (b :: d) / 256 = lev d := by simp only [lev]; omega
    show reg (step r b) d = _
    rw [reg_lev d _ (fun c hc => h c (by simp [hc]))]
    rw [show 8 * (b :: d).length = 8 * d.length + 8 by simp [Nat.mul_add], SN_add, step_shift, e1, e2]
theorem add_xor (b m : Nat) (hb : b < 256) : b + 256 * m = 256 * m ^^^ b := by
  have h := split_xor 8 (b + 256 * m)
  rw [show (2 : Nat) ^ 8 = 256 from rfl, show (b + 256 * m) / 256 = m by omega, show (b + 256 * m) % 256 = b by omega] at h
  exact h
theorem mul_xor (n x y : Nat) : 2 ^ n * (x ^^^ y) = 2 ^ n * x ^^^ 2 ^ n * y := by
  apply Nat.eq_of_testBit_eq
  intro i
  rw [Nat.testBit_xor, Nat.testBit_two_pow_mul, Nat.testBit_two_pow_mul, Nat.testBit_two_pow_mul, Nat.testBit_xor]
  cases decide (n ≤ i) <;> simp
theorem lev_set : ∀ (l : List Nat) (i t : Nat), (∀ b ∈ l, b < 256) → i < l.length → t < 8 → lev (l.set i (l.getD i 0 ^^^ 2 ^ t)) = lev l ^^^ 2 ^ (8 * i + t)
  | [], i, t, _, hi, _ => by simp at hi
  | b :: l, 0, t, h, _, ht => by
    have hb := h b (by simp)
    have hx : b ^^^ 2 ^ t < 256 := Nat.xor_lt_two_pow (n := 8) hb (Nat.pow_lt_pow_right (by omega) ht)
    simp only [List.set_cons_zero, List.getD, List.getElem?_cons_zero, Option.getD_some, lev]
    rw [add_xor _ _ hx, add_xor _ _ hb, Nat.xor_assoc, Nat.mul_zero, Nat.zero_add]
  | b :: l, i + 1, t, h, hi, ht => by
    have hb := h b (by simp)
    have ih := lev_set l i t (fun c hc => h c (by simp [hc])) (by simpa using hi) ht
    simp only [List.getD] at ih
    simp only [List.set_cons_succ, List.getD, List.getElem?_cons_succ, lev]
    rw [ih, add_xor _ _ hb, add_xor _ _ hb, show (256 : Nat) = 2 ^ 8 from rfl, mul_xor, ← Nat.pow_add, show 8 + (8 * i + t) = 8 * (i + 1) + t by omega]
    rw [Nat.xor_assoc, Nat.xor_assoc, Nat.xor_comm (2 ^ (8 * (i + 1) + t))]
theorem lev_flip (l : List Nat) (k : Nat) (hl : ∀ b ∈ l, b < 256) (hk : k < 8 * l.length) : lev (flip l k) = lev l ^^^ 2 ^ k := by
  unfold flip
  rw [lev_set l (k / 8) (k % 8) hl (by omega) (Nat.mod_lt _ (by omega)), Nat.div_add_mod]
theorem lev_inj : ∀ (x y : List Nat), x.length = y.length → (∀ b ∈ x, b < 256) → (∀ b ∈ y, b < 256) → lev x = lev y → x = y
  | [], [], _, _, _, _ => rfl
  | [], _ :: _, h, _, _, _ => by simp at h
  | _ :: _, [], h, _, _, _ => by simp at h
  | a :: x, b :: y, h, hx, hy, e => by
    have ha := hx a (by simp)
    have hb := hy b (by simp)
    simp only [lev] at e
    have e1 : a = b := by omega
    have e2 : lev x = lev y := by omega
    rw [e1, lev_inj x y (by simpa using h) (fun c hc => hx c (by simp [hc])) (fun c hc => hy c (by simp [hc])) e2]
theorem burst_window (l : List Nat) (hl : ∀ b ∈ l, b < 256) (bit : Int) (pat s : Nat) (hs : (s : Int) = max bit 0) (hs2 : s ≤ 8 * l.length) : ∀ j, j ≤ 32 → ∃ v, v < 4294967296 ∧ lev (burst l bit pat j) = lev l ^^^ 2 ^ s * v
  | 0, _ => ⟨0, by omega, by simp [burst]⟩
  | j + 1, hj => by
    obtain ⟨v, hv, e⟩ := burst_window l hl bit pat s hs hs2 j (by omega)
    simp only [burst]
    by_cases hh : hits l.length bit pat j
    · rw [if_pos hh]
      obtain ⟨_, h1, h2⟩ := hh
      have hk : (bit + j).toNat < 8 * (burst l bit pat j).length := by rw [burst_len]; omega
      have hd : (bit + j).toNat = s + ((bit + j).toNat - s) := by omega
      refine ⟨v ^^^ 2 ^ ((bit + j).toNat - s), xor_lt hv (Nat.pow_lt_pow_right (n := 32) (by omega) (by omega)), ?_⟩
      rw [lev_flip _ _ (burst_bytes hl bit pat j) hk, e, mul_xor, ← Nat.pow_add, ← hd, Nat.xor_assoc]
    · rw [if_neg hh]
      exact ⟨v, hv, e⟩
theorem burst_win (l : List Nat) (hl : ∀ b ∈ l, b < 256) (bit : Int) (pat : Nat) : ∃ s v, v < 4294967296 ∧ s ≤ 8 * l.length ∧ lev (burst l bit pat 32) = lev l ^^^ 2 ^ s * v := by
  by_cases ho : 8 * (l.length : Int) ≤ bit
  · exact ⟨0, 0, by omega, Nat.zero_le _, by rw [burst_out l bit pat 32 (by omega) (.inr ho)]; simp⟩
  · obtain ⟨v, hv, e⟩ := burst_window l hl bit pat (max bit 0).toNat (by omega) (by omega) 32 (by omega)
    exact ⟨_, v, hv, by omega, e⟩
theorem detects (l : List Nat) (hl : ∀ b ∈ l, b < 256) (bit : Int) (pat : Nat) (h : sum (burst l bit pat 32) = sum l) : burst l bit pat 32 = l := by
  obtain ⟨s, v, hv, hs, e⟩ := burst_win l hl bit pat
  have hbb := burst_bytes hl bit pat 32
  have hlen := burst_len l bit pat 32
  have h1 : reg (0 ^^^ ones) (burst l bit pat 32) = reg (0 ^^^ ones) l := by
    have := congrArg (· ^^^ ones) h
    simpa [sum, update, Nat.xor_assoc, Nat.xor_self] using this
  rw [reg_lev _ _ hbb, reg_lev _ _ hl, hlen, e] at h1
  rw [← Nat.xor_assoc, SN_xor] at h1
  have h2 : SN (8 * l.length) (2 ^ s * v) = 0 := by
    have := congrArg (SN (8 * l.length) (0 ^^^ ones ^^^ lev l) ^^^ ·) h1
    simpa [← Nat.xor_assoc, Nat.xor_self] using this
  rw [show 8 * l.length = (8 * l.length - s) + s by omega, SN_add, SN_shift] at h2
  have h3 := SN_zero_inv _ hv h2
  subst h3
  refine lev_inj _ _ hlen hbb hl ?_
  rw [e]; simp
theorem sum_resid (D : List Nat) : sum (wsB (D ++ [sumW D])) = SN 64 ones ^^^ ones := by
  have hx := sumW_lt D
  have h1 := rbits_word (reg (0 ^^^ ones) (wsB D)) (sumW D) 8
  have h2 := rbits_eq (reg (0 ^^^ ones) (wsB D)) (sumW D) 64
  have h3 : sumW D / 2 ^ 64 = 0 := Nat.div_eq_of_lt (Nat.lt_of_lt_of_le hx (by decide))
  have h4 : reg (0 ^^^ ones) (wsB D) ^^^ sumW D = ones := by
    unfold sumW sum update
    rw [← Nat.xor_assoc, Nat.xor_self, Nat.zero_xor]
  rw [h3, Nat.xor_zero, h4] at h2
  show reg (0 ^^^ ones) (wsB (D ++ [sumW D])) ^^^ ones = _
  rw [wsB_snoc, reg_append, ← h1]
  rw [show 8 * 8 = 64 from rfl, h2]
theorem burst_seen {D D' : List Nat} {bit : Int} {pat : Nat} (h : wsB (D' ++ [sumW D']) = burst (wsB (D ++ [sumW D])) bit pat 32) : wsB (D' ++ [sumW D']) = wsB (D ++ [sumW D]) := by
  rw [h]
  refine detects _ wsB_lt _ _ ?_
  rw [← h, sum_resid, sum_resid]
theorem half_same {B B' s v : Nat} (hv : v < 4294967296) (e : B' = B ^^^ 2 ^ s * v) (h : B / 2 ^ 64 % 2 ^ 32 = B / 2 ^ 96 % 2 ^ 32) (h' : B' / 2 ^ 64 % 2 ^ 32 = B' / 2 ^ 96 % 2 ^ 32) : B' / 2 ^ 64 % 2 ^ 64 = B / 2 ^ 64 % 2 ^ 64 := by
  have hd : ∀ k, B'.testBit k = (B.testBit k ^^ (decide (s ≤ k) && v.testBit (k - s))) := fun k => by rw [e, Nat.testBit_xor, Nat.testBit_two_pow_mul]
  have hv2 : ∀ k, 32 ≤ k → v.testBit k = false := fun k hk => Nat.testBit_lt_two_pow (Nat.lt_of_lt_of_le hv (by
    have : (2 : Nat) ^ 32 ≤ 2 ^ k := Nat.pow_le_pow_right (by omega) hk
    exact this))
  have hb : ∀ i, i < 32 → B.testBit (64 + i) = B.testBit (96 + i) := fun i hi => by
    have h1 := congrArg (fun x => Nat.testBit x i) h
    simp only [Nat.testBit_mod_two_pow, Nat.testBit_div_two_pow, hi, decide_true, Bool.true_and] at h1
    rw [Nat.add_comm 64, Nat.add_comm 96]
    exact h1
  have hb' : ∀ i, i < 32 → B'.testBit (64 + i) = B'.testBit (96 + i) := fun i hi => by
    have h1 := congrArg (fun x => Nat.testBit x i) h'
    simp only [Nat.testBit_mod_two_pow, Nat.testBit_div_two_pow, hi, decide_true, Bool.true_and] at h1
    rw [Nat.add_comm 64, Nat.add_comm 96]
    exact h1
  have hz : ∀ i, i < 32 → (decide (s ≤ 64 + i) && v.testBit (64 + i - s)) = false ∧ (decide (s ≤ 96 + i) && v.testBit (96 + i - s)) = false := fun i hi => by
    have h1 := hb' i hi
    rw [hd, hd, hb i hi] at h1
    have h2 : (decide (s ≤ 64 + i) && v.testBit (64 + i - s)) = (decide (s ≤ 96 + i) && v.testBit (96 + i - s)) := by
      revert h1
      cases B.testBit (96 + i) <;> cases (decide (s ≤ 64 + i) && v.testBit (64 + i - s)) <;> cases (decide (s ≤ 96 + i) && v.testBit (96 + i - s)) <;> simp
    by_cases hs : s ≤ 64 + i
    · have h3 := hv2 (96 + i - s) (by omega)
      rw [h3, Bool.and_false] at h2 ⊢
      exact ⟨h2, rfl⟩
    · have h3 : (decide (s ≤ 64 + i) && v.testBit (64 + i - s)) = false := by rw [decide_eq_false hs]; rfl
      rw [h3] at h2
      exact ⟨h3, h2.symm⟩
  apply Nat.eq_of_testBit_eq
  intro i
  rw [Nat.testBit_mod_two_pow, Nat.testBit_mod_two_pow, Nat.testBit_div_two_pow, Nat.testBit_div_two_pow]
  by_cases hi : i < 64
  · have : B'.testBit (i + 64) = B.testBit (i + 64) := by
      rw [hd]
      by_cases h32 : i < 32
      · have h1 := (hz i h32).1
        rw [show i + 64 = 64 + i by omega, h1, Bool.xor_false]
      · have h1 := (hz (i - 32) (by omega)).2
        rw [show 96 + (i - 32) = i + 64 by omega] at h1
        rw [h1, Bool.xor_false]
    rw [this]
  · rw [decide_eq_false hi]; rfl
end Go.Proofs.YtpihhlbfpbngaaaGreatDoor.Crc
namespace Go.Proofs.YtpihhlbfpbngaaaGreatDoor
theorem lev_app : ∀ (l m : List Nat), lev (l ++ m) = lev l + 256 ^ l.length * lev m
  | [], m => by simp [lev]
  | a :: l, m => by
    show a + 256 * lev (l ++ m) = a + 256 * lev l + 256 ^ (l.length + 1) * lev m
    rw [lev_app l m, Nat.pow_succ, Nat.mul_add, Nat.add_assoc, ← Nat.mul_assoc, Nat.mul_comm 256 (256 ^ l.length)]
theorem wb_len (x j : Nat) : (wb x j).length = j := by simp [wb]
theorem lev_wbm (x j : Nat) : lev (wb x j) = x % 256 ^ j := by
  induction j with
  | zero => simp [wb, lev, Nat.mod_one]
  | succ j ih => rw [wb_succ, lev_snoc, ih, wb_len, Nat.pow_succ, Nat.mod_mul]
theorem lev_wb8 {x : Nat} (h : x < 18446744073709551616) : lev (wb x 8) = x := by
  rw [lev_wbm, Nat.mod_eq_of_lt (Nat.lt_of_lt_of_le h (by decide))]
theorem wsB_cons (x : Nat) (l : List Nat) : wsB (x :: l) = wb x 8 ++ wsB l := by simp [wsB]
theorem wsB_len : ∀ l : List Nat, (wsB l).length = 8 * l.length
  | [] => rfl
  | x :: l => by rw [wsB_cons, List.length_append, wb_len, wsB_len l, List.length_cons]; omega
theorem packW_cons {m : List Nat} (h : 8 ≤ m.length) : packW m = lev (m.take 8) :: packW (m.drop 8) := by
  unfold packW
  rw [List.length_drop, show (m.length + 7) / 8 = (m.length - 8 + 7) / 8 + 1 by omega, List.range_succ_eq_map, List.map_cons, List.map_map]
  congr 1
  apply List.map_congr_left
  intro j _
  show lev ((m.drop (8 * (j + 1))).take 8) = _
  rw [List.drop_drop, show 8 + 8 * j = 8 * (j + 1) by omega]
theorem packW_wsB : ∀ {l : List Nat}, (∀ x ∈ l, x < 18446744073709551616) → packW (wsB l) = l
  | [], _ => rfl
  | x :: l, h => by
    have h8 := wb_len x 8
    rw [wsB_cons, packW_cons (by rw [List.length_append, h8]; omega)]
    have e1 : (wb x 8 ++ wsB l).take 8 = wb x 8 := by
      have := List.take_left (l₁ := wb x 8) (l₂ := wsB l)
      rwa [h8] at this
    have e2 : (wb x 8 ++ wsB l).drop 8 = wsB l := by
      have := List.drop_left (l₁ := wb x 8) (l₂ := wsB l)
      rwa [h8] at this
    rw [e1, e2, lev_wb8 (h x (by simp)), packW_wsB (fun y hy => h y (by simp [hy]))]
theorem wsB_packW : ∀ (n : Nat) (m : List Nat), m.length = 8 * n → (∀ b ∈ m, b < 256) → wsB (packW m) = m
  | 0, m, h, _ => by
    have : m = [] := List.eq_nil_of_length_eq_zero (by omega)
    subst this
    rfl
  | n + 1, m, h, hb => by
    have h8 : (m.take 8).length = 8 := by rw [List.length_take]; omega
    have e := lev_wb (m.take 8) (fun b hm => hb b (List.mem_of_mem_take hm))
    rw [h8] at e
    rw [packW_cons (by omega), wsB_cons, e, wsB_packW n (m.drop 8) (by rw [List.length_drop]; omega) (fun b hm => hb b (List.mem_of_mem_drop hm)), List.take_append_drop]
theorem wsB_inj {l l' : List Nat} (h : ∀ x ∈ l, x < 18446744073709551616) (h' : ∀ x ∈ l', x < 18446744073709551616) (e : wsB l = wsB l') : l = l' := by
  rw [← packW_wsB h, e, packW_wsB h']
theorem lev_word : ∀ (l : List Nat) (j : Nat), (∀ x ∈ l, x < 18446744073709551616) → lev (wsB l) / 2 ^ (64 * j) % 2 ^ 64 = l.getD j 0
  | [], j, _ => by simp [wsB, lev]
  | x :: l, 0, h => by
    have hx := h x (by simp)
    rw [wsB_cons, lev_app, lev_wb8 hx, wb_len, show (256 : Nat) ^ 8 = 2 ^ 64 from rfl, Nat.mul_zero, Nat.pow_zero, Nat.div_one, Nat.add_mul_mod_self_left, Nat.mod_eq_of_lt (by omega)]
    rfl
  | x :: l, j + 1, h => by
    have hx := h x (by simp)
    rw [wsB_cons, lev_app, lev_wb8 hx, wb_len, show (256 : Nat) ^ 8 = 2 ^ 64 from rfl, show 64 * (j + 1) = 64 + 64 * j by omega, Nat.pow_add, ← Nat.div_div_eq_div_mul, Nat.add_mul_div_left _ _ (by decide), Nat.div_eq_of_lt (show x < 2 ^ 64 from hx), Nat.zero_add, lev_word l j (fun y hy => h y (by simp [hy]))]
    rfl
theorem burst_half {l l' : List Nat} {bit : Int} {pat : Nat} (hl : ∀ x ∈ l, x < 18446744073709551616) (hl' : ∀ x ∈ l', x < 18446744073709551616) (h : wsB l' = Crc.burst (wsB l) bit pat 32) (h1 : l.getD 1 0 % 4294967296 = l.getD 1 0 / 4294967296) (h2 : l'.getD 1 0 % 4294967296 = l'.getD 1 0 / 4294967296) : l'.getD 1 0 = l.getD 1 0 := by
  obtain ⟨s, v, hv, _, e⟩ := Crc.burst_win (wsB l) wsB_lt bit pat
  rw [← h] at e
  have w1 := lev_word l 1 hl
  have w2 := lev_word l' 1 hl'
  have hh : ∀ B : Nat, B / 2 ^ 64 % 2 ^ 32 = B / 2 ^ (64 * 1) % 2 ^ 64 % 4294967296 ∧ B / 2 ^ 96 % 2 ^ 32 = B / 2 ^ (64 * 1) % 2 ^ 64 / 4294967296 := fun B => by
    have e3 : B / 2 ^ 96 = B / 2 ^ 64 / 2 ^ 32 := by rw [Nat.div_div_eq_div_mul, ← Nat.pow_add]
    rw [e3, Nat.mul_one]
    generalize B / 2 ^ 64 = q
    omega
  have a1 := hh (lev (wsB l))
  have a2 := hh (lev (wsB l'))
  rw [w1] at a1
  rw [w2] at a2
  have h3 := Crc.half_same hv e (by rw [a1.1, a1.2, h1]) (by rw [a2.1, a2.2, h2])
  rw [← w1, ← w2]
  exact h3
theorem loadR_words {L : Nat} {cur : Nat → Nat} {q r : Nat} {l : List Nat} (h : WordsAt cur q l) (h1 : l.getD 1 0 = r * 4294967297) (hlen : l.length = bSize r) (hl : r ≤ 2000) (hL : pOff q + 8 * bSize r ≤ 64 * L) : loadR L cur q = some (l, r) := by
  obtain ⟨h3, h60⟩ := bSize_le r
  have e1 : cur (pOff q / 8 + 1) = r * 4294967297 := by rw [h 1 (by omega), h1]
  have m1 : cur (pOff q / 8 + 1) % 4294967296 = r := by rw [e1]; omega
  have m2 : cur (pOff q / 8 + 1) / 4294967296 = r := by rw [e1]; omega
  unfold loadR
  rw [m1, m2, if_neg (by omega), if_neg (by omega), if_neg (by omega)]
  congr 2
  apply List.ext_getElem
  · rw [List.length_map, List.length_range, hlen]
  · intro j h4 h2
    rw [List.getElem_map, List.getElem_range, h j h2, List.getD_eq_getElem?_getD, List.getElem?_eq_getElem h2]
    rfl
def BadAt (L : Nat) (cur : Nat → Nat) (q : Nat) : Prop := loadR L cur q = none ∨ ∃ l rest, loadR L cur q = some (l, rest) ∧ partE l rest ≠ 0
theorem burst_bad {L : Nat} {cur : Nat → Nat} {q next : Nat} {p l' : List Nat} {bit : Int} {pat : Nat} (hw : WordsAt cur q l') (hl' : ∀ x ∈ l', x < 18446744073709551616) (hp : ∀ b ∈ p, b < 256) (hnx : next < 18446744073709551616) (hn : p.length ≤ 2000) (hL : pOff q + 8 * bSize p.length ≤ 64 * L) (hb : wsB l' = Crc.burst (wsB (payL next p)) bit pat 32) (hne : l' ≠ payL next p) : BadAt L cur q := by
  have hpl := payL_lt hnx hp hn
  obtain ⟨h3, h60⟩ := bSize_le p.length
  have hlen : l'.length = bSize p.length := by
    have h1 := congrArg List.length hb
    rw [Crc.burst_len, wsB_len, wsB_len, payL_len] at h1
    omega
  have e1 : cur (pOff q / 8 + 1) = l'.getD 1 0 := hw 1 (by omega)
  by_cases hh : l'.getD 1 0 % 4294967296 = l'.getD 1 0 / 4294967296
  · have h2 := burst_half hpl hl' hb (by rw [(payL_head next p).2]; omega) hh
    rw [(payL_head next p).2] at h2
    refine .inr ⟨l', p.length, loadR_words hw h2 hlen hn hL, fun hE => hne ?_⟩
    unfold partE at hE
    split at hE
    · cases hE
    · rename_i hs
      have hs' : l'.getD (l'.length - 1) 0 = sumW (l'.take (l'.length - 1)) := Classical.byContradiction hs
      have e2 : l' = l'.take (l'.length - 1) ++ [sumW (l'.take (l'.length - 1))] := by
        conv => lhs; rw [← List.take_append_drop (l'.length - 1) l']
        congr 1
        rw [← hs', List.getD_eq_getElem?_getD, List.getElem?_eq_getElem (show l'.length - 1 < l'.length by omega), List.drop_eq_getElem_cons (show l'.length - 1 < l'.length by omega), List.drop_of_length_le (by omega)]
        rfl
      have e3 : payL next p = payB next p ++ [sumW (payB next p)] := rfl
      rw [e3] at hb
      rw [e2] at hb
      have h4 := Crc.burst_seen hb
      rw [← e2, ← e3] at h4
      exact wsB_inj hl' hpl h4
  · refine .inl ?_
    unfold loadR
    rw [e1, if_neg (by omega), if_pos (.inl hh)]
theorem walk_bad {L : Nat} {cur cur' : Nat → Nat} {chk : Nat → Nat} (k : Nat) : ∀ (j q : Nat) (t p bs by_ : List Nat) (want : Int), Chain L cur chk (q :: t) p → (∀ b ∈ p, b < 256) → (want < 0 ∨ want = p.length) → p.length ≤ 456 * k → 0 < k → (hj : j < (q :: t).length) → (∀ i (h : i < (q :: t).length), i < j → ∀ y, y < bSize (p.length - 456 * i) → cur' (pOff (q :: t)[i] / 8 + y) = cur (pOff (q :: t)[i] / 8 + y)) → BadAt L cur' (q :: t)[j] → ∃ e, e ≠ 0 ∧ walkA L cur' chk k q want bs by_ = (e, [], []) := by
  induction k with
  | zero => intro j q t p bs by_ want _ _ _ _ h; exact absurd h (Nat.lt_irrefl 0)
  | succ k ih =>
    intro j q t p bs by_ want h hp hw hk _ hj hs hbad
    cases j with
    | zero =>
      have hbad' : BadAt L cur' q := hbad
      unfold walkA
      rcases hbad' with hb | ⟨l, rest, hb, hE⟩
      · rw [hb]
        exact ⟨11, by omega, rfl⟩
      · rw [hb]
        show ∃ e, e ≠ 0 ∧ (if 0 ≤ want ∧ (rest : Int) ≠ want then _ else _) = _
        split
        · exact ⟨11, by omega, rfl⟩
        · exact ⟨_, hE, rfl⟩
    | succ j =>
      have hnz := h.nz
      obtain ⟨h1, h2, h3, h4, h5, h6, h7, h8⟩ := h
      have h1' : WordsAt cur' q (payL (t.headD 0) p) := fun y hy => by
        have h9 := hs 0 (by simp) (by omega) y (by rw [payL_len] at hy; simpa using hy)
        rw [show (q :: t)[0] = q from rfl] at h9
        rw [h9]
        exact h1 y hy
      unfold walkA
      rw [loadR_pay h1' h2 h3]
      show ∃ e, e ≠ 0 ∧ (if 0 ≤ want ∧ ((p.length : Nat) : Int) ≠ want then _ else _) = _
      rw [if_neg (by omega), partE_pay hp hnz, if_neg (by omega), partB_pay hp, (payL_head _ p).1]
      cases t with
      | nil => simp at hj
      | cons r t =>
        have hr : 456 < p.length := h4.2 (by simp)
        rw [if_neg (by omega)]
        have hc := h8 (by simp)
        have hcr : chk r = 0 := hc.2.2.2.2.2.2.1
        show ∃ e, e ≠ 0 ∧ (if chk r ≠ 0 then _ else _) = _
        rw [if_neg (by omega)]
        refine ih j r t (p.drop 456) _ _ _ hc (fun b hb => hp b (List.mem_of_mem_drop hb)) (.inr (by rw [List.length_drop]; omega)) (by rw [List.length_drop]; omega) (by omega) (by simpa using hj) (fun i hi hij y hy => ?_) hbad
        rw [List.length_drop] at hy
        exact hs (i + 1) (by simpa using hi) (by omega) y (by rw [show p.length - 456 * (i + 1) = p.length - 456 - 456 * i by omega]; exact hy)
end Go.Proofs.YtpihhlbfpbngaaaGreatDoor
namespace Go.Proofs.YtpihhlbfpbngaaaGreatDoor
open Go.RowKit Go.Maps
def StB (a : DA) (L T K : Nat) (x : HA) (y : WA) (cs : Nat → CS) (f : Nat → Option Nat) (N m b0 : Nat) (S : Fp) (cur : Nat → Nat) (w : World) (b : Nat) (NW : List Nat) (r : Nat) (wr : World) : Prop :=
  ∃ S' cur', BW a L (T + r) K x y cs f N m b0 S' cur' wr ∧ Chg S w wr ∧ Grew S S' w ∧ ∀ z, cur' z = if pOff b / 8 ≤ z ∧ z < pOff b / 8 + r then NW.getD (z - pOff b / 8) 0 else cur z
section
variable {a : DA} {L T K : Nat} {x : HA} {y : WA} {cs : Nat → CS} {f f' : Nat → Option Nat} {N m b0 : Nat} {S : Fp} {cur cur2 : Nat → Nat} {w wr : World} {b r : Nat} {NW : List Nat} {al p bl : List Nat} {i : Nat}
theorem StB.first (h : BW a L T K x y cs f N m b0 S cur w) : StB a L T K x y cs f N m b0 S cur w b NW 0 w :=
  ⟨S, cur, h, Chg.refl _ _, Grew.refl _ _, fun z => by rw [if_neg (by omega)]⟩
theorem StB.below {w' : World} (h : StB a L T K x y cs f N m b0 S cur w b NW r wr) (hb : Below wr.heap.size wr w') : StB a L T K x y cs f N m b0 S cur w b NW r w' := by
  obtain ⟨S', cur', h1, h2, h3, h4⟩ := h
  exact ⟨S', cur', h1.below hb, h2.trans (Chg.of_below hb) h3, h3, h4⟩
theorem StB.step (h : StB a L T K x y cs f N m b0 S cur w b NW r wr) {k i : Nat} (hq : At 53 K cs b k i) (hr : r < payW (cs k).cl) (hv : NW.getD r 0 < 18446744073709551616) (hT : T + r < 1000000000) :
    Calls Tryz.prog 23 #[.pointer (some ⟨a.th 0, 0, none⟩), .int .u64 ((pOff b + 8 * r : Nat) : Int), .int .u64 ((NW.getD r 0 : Nat) : Int)] wr fun e w' => e = .returned (.tuple #[]) ∧ StB a L T K x y cs f N m b0 S cur w b NW (r + 1) w' := by
  obtain ⟨S', cur', hbw, hc, hg, he⟩ := h
  refine (hbw.storeW hq hr hv hT).mono ?_
  rintro e w' ⟨rfl, S2, hbw2, hc2, hg2⟩
  refine ⟨rfl, S2, _, by rw [← Nat.add_assoc]; exact hbw2, hc.trans hc2 hg, hg.trans hg2 hc.size, fun z => ?_⟩
  rw [wrS_oneG, he z]
  by_cases h1 : z = (pOff b + 8 * r) / 8
  · rw [if_pos h1, if_pos (by omega), show z - pOff b / 8 = r by omega]
  · rw [if_neg h1]
    by_cases h2 : pOff b / 8 ≤ z ∧ z < pOff b / 8 + r
    · rw [if_pos h2, if_pos (by omega)]
    · rw [if_neg h2, if_neg (by omega)]
theorem burst_end {n : Nat} (hd : DS a L T 53 n K x cs f' N m b0 S cur2 w) (hpp : PutP L K f al p i bl cs f' cur2) (hp : ∀ b ∈ p, b < 256) (hn : p.length ≤ 2000) {j0 : Nat} (hj : j0 < bl.length) {bit : Int} {pat : Nat} {cur' : Nat → Nat} (hb0 : bl[j0] = b) {L0 : List Nat} (hL0 : payL (bl.getD (j0 + 1) 0) (p.drop (456 * j0)) = L0)
    (hl : NW.length = L0.length) (hlt : ∀ x ∈ NW, x < 18446744073709551616) (hb : wsB NW = Crc.burst (wsB L0) bit pat 32)
    (he : ∀ z, cur' z = if pOff b / 8 ≤ z ∧ z < pOff b / 8 + NW.length then NW.getD (z - pOff b / 8) 0 else cur2 z) :
    (NW = L0 → walkR L cur' (fun q => chkR 53 K cs q 1) (bl.headD 0) = (0, bl, p)) ∧ (NW ≠ L0 → ∃ e, e ≠ 0 ∧ walkR L cur' (fun q => chkR 53 K cs q 1) (bl.headD 0) = (e, [], [])) := by
  have hw0 := hpp.words j0 hj
  rw [hb0, hL0] at hw0
  obtain ⟨k, i2, hlv, hcl⟩ := hpp.live j0 hj
  have hlen0 : L0.length = payW (cs k).cl := by rw [← hL0, payL_len, List.length_drop, hcl]
  rw [hb0] at hlv
  refine ⟨fun hE => ?_, fun hne => ?_⟩
  · have hcc : cur' = cur2 := funext fun z => by
      rw [he z]
      split
      · rename_i h
        have h1 := hw0 (z - pOff b / 8) (by omega)
        rw [hE, ← h1]
        congr 1
        omega
      · rfl
    rw [hcc]
    exact hpp.walk hp hn
  · have hbad : BadAt L cur' b := by
      refine burst_bad (next := bl.getD (j0 + 1) 0) (p := p.drop (456 * j0)) (l' := NW) (bit := bit) (pat := pat) (fun y hy => ?_) hlt (fun z hz => hp z (List.mem_of_mem_drop hz)) (hpp.nx _) (by rw [List.length_drop]; omega) ?_ (by rw [hL0]; exact hb) (by rw [hL0]; exact hne)
      · rw [he, if_pos (by omega), show pOff b / 8 + y - pOff b / 8 = y by omega]
      · have h1 := (hlv.at_.inL hd).1
        rw [hcl] at h1
        rw [List.length_drop]
        exact h1
    have hch := hpp.chain
    have hsame : ∀ i (h : i < bl.length), i < j0 → ∀ y, y < bSize (p.length - 456 * i) → cur' (pOff bl[i] / 8 + y) = cur2 (pOff bl[i] / 8 + y) := fun i hi hij y hy => by
      rw [he, if_neg]
      rintro ⟨h1, h2⟩
      obtain ⟨k', i', hlv', hcl'⟩ := hpp.live i hi
      have hne2 := nodup_off hpp.nd hi hj (by omega)
      rw [hb0] at hne2
      have e1 := hlv'.at_.lines.1
      have e2 := hlv.at_.lines.1
      have h3 := pay_apart (s := 53) (cs := cs) hlv'.at_.2.2.1 hlv.at_.2.2.1 (j := y) (j' := pOff bl[i] / 8 + y - pOff b / 8) (by omega) (by omega) (fun hk => hne2 (by
        rw [hlv'.at_.2.2.2, hlv.at_.2.2.2, hk.1, hk.2]))
      omega
    cases bl with
    | nil => exact absurd hch (by simp [Chain])
    | cons q t =>
      have hcq : chkR 53 K cs q 1 = 0 := hch.2.2.2.2.2.2.1
      show ∃ e, e ≠ 0 ∧ walkR L cur' _ q = _
      unfold walkR
      rw [if_neg (fun h => h hcq)]
      exact walk_bad 6 j0 q t p [] [] (-1) hch hp (.inl (by omega)) (by omega) (by omega) hj hsame (by rw [hb0]; exact hbad)
end
end Go.Proofs.YtpihhlbfpbngaaaGreatDoor
