/- The walks and laws that the claim leans on, part 10. -/
import Derived.Test.YtnlokpakiambaaaGreatDoorJai
set_option maxRecDepth 100000
set_option maxHeartbeats 16000000
namespace Go.Proofs.YtnlokpakiambaaaGreatDoor
open Go.Lib (hid)
section
open Go.RowKit
def pOff (p : Nat) : Nat := p % 4294967296 * 8
def pGen (p : Nat) : Nat := p / 4294967296 % 65536
def pKind (p : Nat) : Nat := p / 281474976710656 % 256
def pAt (p k : Nat) : Nat := if p = 0 ∨ 60 ≤ k then 0 else pOff p + 8 * k
def pMk (off gen kind : Nat) : Nat := off / 8 + gen * 4294967296 + kind * 281474976710656
theorem pMk_off {off gen kind : Nat} (h8 : off % 8 = 0) (ho : off < 34359738368) : pOff (pMk off gen kind) = off := by
 unfold pOff pMk; omega
theorem pMk_gen {off gen kind : Nat} (ho : off < 34359738368) (hg : gen < 65536) : pGen (pMk off gen kind) = gen := by
 unfold pGen pMk; omega
theorem pMk_kind {off gen kind : Nat} (ho : off < 34359738368) (hg : gen < 65536) (hk : kind < 256) : pKind (pMk off gen kind) = kind := by
 unfold pKind pMk; omega
theorem pMk_lt {off gen kind : Nat} (ho : off < 34359738368) (hg : gen < 65536) (hk : kind < 128) : pMk off gen kind < 18446744073709551616 ∧ pMk off gen kind / 72057594037927936 = 0 := by
 unfold pMk; omega
theorem pMk_ne {off gen kind : Nat} (hg : 0 < gen) : pMk off gen kind ≠ 0 := by
 unfold pMk; omega
section
theorem off_any (p : Nat) (w : World) : Calls Tryz.prog 68 #[.int .u64 (p : Int)] w fun e w' => e = .returned (.int .u64 (pOff p : Int)) ∧ w = w' := by
 have e1 : IntKind.u32.wrap (p : Int) = ((p % 4294967296 : Nat) : Int) := by rw [IntKind.wrap_u32]; omega
 have e2 : IntKind.u64.wrap ((p % 4294967296 : Nat) : Int) = ((p % 4294967296 : Nat) : Int) := by rw [IntKind.wrap_u64]; omega
 have HP : Hid ((pOff p : Int) = ((p % 4294967296 : Nat) : Int) * 8) := hid (by unfold pOff; omega)
 have h1 : p % 4294967296 < 4294967296 := by omega
 generalize pOff p = r at *
 generalize p % 4294967296 = q at *
 go_enter Tryz.func68, Tryz.ntmps68
 go_wp2
 go_ret
 exact ⟨by rw [HP.out]; rfl, rfl⟩
theorem gen_any (p : Nat) (w : World) : Calls Tryz.prog 163 #[.int .u64 (p : Int)] w fun e w' => e = .returned (.int .u16 (pGen p : Int)) ∧ w = w' := by
 have e1 : IntKind.u16.wrap ((p : Int) / 4294967296) = (pGen p : Int) := by unfold pGen; rw [IntKind.wrap_u16]; omega
 generalize pGen p = r at *
 go_enter Tryz.func163, Tryz.ntmps163
 go_wp2
 go_ret
 exact ⟨rfl, rfl⟩
theorem kind_any (p : Nat) (w : World) : Calls Tryz.prog 29 #[.int .u64 (p : Int)] w fun e w' => e = .returned (.int .u8 (pKind p : Int)) ∧ w = w' := by
 have e1 : IntKind.u8.wrap ((p : Int) / 281474976710656) = (pKind p : Int) := by unfold pKind; rw [IntKind.wrap_u8]; omega
 generalize pKind p = r at *
 go_enter Tryz.func29, Tryz.ntmps29
 go_wp2
 go_ret
 exact ⟨rfl, rfl⟩
theorem nil_any (p : Nat) (w : World) : Calls Tryz.prog 67 #[.int .u64 (p : Int)] w fun e w' => e = .returned (.bool (decide (p = 0))) ∧ w = w' := by
 have e1 : ((p : Int) == 0) = decide (p = 0) := by
  by_cases h : p = 0
  ·subst h; rfl
  ·rw [decide_eq_false h, beq_eq_false_iff_ne]; omega
 generalize decide (p = 0) = b at *
 go_enter Tryz.func67, Tryz.ntmps67
 go_wp2
 go_ret
 exact ⟨rfl, rfl⟩
theorem at_any (p k : Nat) (hk : k ≤ 1000000000) (w : World) : Calls Tryz.prog 24 #[.int .u64 (p : Int), .int .i64 (k : Int)] w fun e w' => e = .returned (.int .u64 (pAt p k : Int)) ∧ w = w' := by
 have HN := hid (nil_any p w)
 have HO := hid (off_any p w)
 have hk0 : (0 : Int) ≤ (k : Int) := by omega
 by_cases h0 : p = 0
 ·have hr : (pAt p k : Int) = 0 := by unfold pAt; rw [if_pos (.inl h0)]; rfl
  rw [hr]
  rw [decide_eq_true h0] at HN
  clear hr h0
  go_enter Tryz.func24, Tryz.ntmps24
  go_wp2_with (go_at_call 67; refine HN.out.mono ?_; rintro e w1 ⟨rfl, rfl⟩)
  go_ret
  exact ⟨rfl, rfl⟩
 ·rw [decide_eq_false h0] at HN
  by_cases h1 : 60 ≤ k
  ·have hr : (pAt p k : Int) = 0 := by unfold pAt; rw [if_pos (.inr h1)]; rfl
   have d1 : decide (60 ≤ (k : Int)) = true := decide_eq_true (by omega)
   rw [hr]
   clear hr h0
   go_enter Tryz.func24, Tryz.ntmps24
   go_wp2_with (go_at_call 67; refine HN.out.mono ?_; rintro e w1 ⟨rfl, rfl⟩)
   go_ret
   exact ⟨rfl, rfl⟩
  ·have hr : (pAt p k : Int) = (pOff p : Int) + 8 * (k : Int) := by unfold pAt; rw [if_neg (by omega)]; omega
   have d1 : decide (60 ≤ (k : Int)) = false := decide_eq_false (by omega)
   have u1 : IntKind.u64.wrap (k : Int) = (k : Int) := by rw [IntKind.wrap_u64]; omega
   have ho : pOff p ≤ 34359738368 := by unfold pOff; omega
   have HR := hid hr
   clear hr h0
   generalize pOff p = r at *
   generalize pAt p k = z at *
   go_enter Tryz.func24, Tryz.ntmps24
   go_wp2_with (first
    | (go_at_call 67; refine HN.out.mono ?_; rintro e w1 ⟨rfl, rfl⟩)
    | (go_at_call 68; refine HO.out.mono ?_; rintro e w1 ⟨rfl, rfl⟩))
   go_ret
   exact ⟨by rw [HR.out]; rfl, rfl⟩
theorem make_or (o g k : Nat) (ho : o < 4294967296) (hg : g < 65536) (hk : k < 256) : bits .or .u64 (bits .or .u64 (o : Int) ((g : Int) * 4294967296)) ((k : Int) * 281474976710656) = ((o + g * 4294967296 + k * 281474976710656 : Nat) : Int) := by
 rw [Go.u64_or32 (y := (o : Int)) (x := (g : Int) * 4294967296) (by omega) (by omega) (by omega) (by omega) (by omega)]
 rw [Go.u64_or48 (y := (o : Int) + (g : Int) * 4294967296) (x := (k : Int) * 281474976710656) (by omega) (by omega) (by omega) (by omega) (by omega)]
 omega
theorem ptrMake_any (off gen kind : Nat) (h8 : off % 8 = 0) (h0 : 0 < off) (ho : off ≤ 1000000000) (hg0 : 0 < gen) (hg : gen < 65536) (hk0 : 0 < kind) (hk : kind < 128) (w : World) :
  Calls Tryz.prog 309 #[.int .u64 (off : Int), .int .u16 (gen : Int), .int .u8 (kind : Int)] w fun e w' => e = .returned (.tuple #[.int .u64 (pMk off gen kind : Int), .int .i64 0]) ∧ w = w' := by
 have e1 : ((off : Int) == 0) = false := by rw [beq_eq_false_iff_ne]; omega
 have e2 : (off : Int) % 8 = 0 := by omega
 have e3 : ((gen : Int) == 0) = false := by rw [beq_eq_false_iff_ne]; omega
 have e4 : ((kind : Int) == 0) = false := by rw [beq_eq_false_iff_ne]; omega
 have e5 : decide (127 < (kind : Int)) = false := decide_eq_false (by omega)
 have e6 : decide (34359738360 < (off : Int)) = false := decide_eq_false (by omega)
 obtain ⟨o8, ho8⟩ : ∃ o8, off / 8 = o8 := ⟨_, rfl⟩
 have e7 : (off : Int) / 8 = (o8 : Int) := by omega
 have e8 : IntKind.u64.wrap (gen : Int) = (gen : Int) := by rw [IntKind.wrap_u64]; omega
 have e9 : IntKind.u64.wrap (kind : Int) = (kind : Int) := by rw [IntKind.wrap_u64]; omega
 have ea : bits .or .u64 (bits .or .u64 (o8 : Int) ((gen : Int) * 4294967296)) ((kind : Int) * 281474976710656) = (pMk off gen kind : Int) := by
  rw [make_or _ _ _ (by omega) hg (by omega)]; unfold pMk; rw [ho8]
 generalize pMk off gen kind = r at *
 go_enter Tryz.func309, Tryz.ntmps309
 go_wp2
 go_ret2
 exact ⟨rfl, rfl⟩
end
end
section
open Go.RowKit
def RowQ (Q : Nat → Prop) (cs : Array Value) (n : Nat) : Prop := n ≤ cs.size ∧ ∀ i, i < n → ∃ x : Nat, Q x ∧ cs[i]? = some (.int .u64 (x : Int))
theorem RowQ.set {Q : Nat → Prop} {cs : Array Value} {n : Nat} (h : RowQ Q cs n) (j x : Nat) (hj : j < n) (hx : Q x) : RowQ Q (cs.setIfInBounds j (.int .u64 (x : Int))) n := by
 refine ⟨by simpa using h.1, fun i hi => ?_⟩
 rw [set_at i (by have := h.1; omega)]
 by_cases hij : i = j
 ·rw [if_pos hij]; exact ⟨x, hx, rfl⟩
 ·rw [if_neg hij]; exact h.2 i hi
theorem blk_setCells {g : Nat} {t : TypeId} : ∀ (vs : List Value) (o : Nat) {w : World} {cs : Array Value}, Blk w g t cs → ∃ cs', Blk (w.setCells g o vs) g t cs' ∧ cs'.size = cs.size ∧ ∀ i, i < o → cs'[i]? = cs[i]?
 | [], _, _, cs, h => ⟨cs, h, rfl, fun _ _ => rfl⟩
 | v :: r, o, w, cs, h => by
  obtain ⟨cs', h1, h2, h3⟩ := blk_setCells r (o + 1) (h.set_ o v)
  refine ⟨cs', h1, by simpa using h2, fun i hi => ?_⟩
  rw [h3 i (by omega), Array.getElem?_setIfInBounds_ne (by omega)]
theorem chg_setCells {g : Nat} {S : Fp} {w0 : World} (hS : S g) : ∀ (vs : List Value) (o : Nat) {w : World}, Chg S w0 w → Chg S w0 (w.setCells g o vs)
 | [], _, _, h => h
 | v :: r, o, _, h => chg_setCells hS r (o + 1) (h.setCell (p := ⟨g, o, none⟩) (.inl hS) v)
def CompI (Q : Nat → Prop) (w wr : World) (g n sz : Nat) : Prop := ∃ cs, Blk wr g 23 cs ∧ cs.size = sz ∧ RowQ Q cs n ∧ Chg (fun k => k = g) w wr
def RetComp (Q : Nat → Prop) (w : World) (g n cap sz : Nat) (e : Ending) (w' : World) : Prop := ∃ m, e = .returned (.slice (some ⟨g, 0, none⟩) m cap) ∧ m ≤ n ∧ CompI Q w w' g m sz
theorem compact_any (Q : Nat → Prop) (g n cap sz : Nat) (w : World) (h : CompI Q w w g n sz) (hn : n ≤ 1000000) (hc : n ≤ cap) (hcm : cap ≤ 9223372036854775807) :
  Calls Tryz.prog 112 #[.slice (some ⟨g, 0, none⟩) n cap] w (RetComp Q w g n cap sz) := by
 have H0 := hid h
 clear h
 by_cases h2 : n < 2
 ·have e1 : decide ((n : Int) < 2) = true := decide_eq_true (by omega)
  have e2 : decide (n < 2) = true := decide_eq_true h2
  go_enter Tryz.func112, Tryz.ntmps112
  go_wp2
  go_ret
  exact ⟨n, rfl, Nat.le_refl _, H0.out⟩
 ·have e1 : decide ((n : Int) < 2) = false := decide_eq_false (by omega)
  have e2 : decide (n < 2) = false := decide_eq_false h2
  go_enter Tryz.func112, Tryz.ntmps112
  go_wp2
  go_loopw [3] (fun i wr => ∃ (k : Nat), 1 ≤ k ∧ k ≤ n ∧ i = .int .i64 k ∧ Hid (CompI Q w wr g n sz)) (fun i _ => n - (intOf i).toNat)
  case atStart => exact ⟨1, by omega, by omega, rfl, H0⟩
  case round =>
   clear H0
   obtain ⟨k, hk1, hk, rfl, H⟩ := hrel
   by_cases hlt : k < n
   ·obtain ⟨q, rfl⟩ : ∃ q, k = q + 1 := ⟨k - 1, by omega⟩
    obtain ⟨cs, h1, h2', h3, h4⟩ := H.out
    obtain ⟨x1, hq1, hx1⟩ := h3.2 (q + 1) hlt
    obtain ⟨x0, hq0, hx0⟩ := h3.2 q (by omega)
    have c1 : wr.cell? ⟨g, q + 1, none⟩ = some (.int .u64 (x1 : Int)) := by rw [h1.cell]; exact hx1
    have c0 : wr.cell? ⟨g, q, none⟩ = some (.int .u64 (x0 : Int)) := by rw [h1.cell]; exact hx0
    have H1 : Hid (CompI Q w wr.drew g n sz) := ⟨cs, h1, h2', h3, h4.drew⟩
    clear h1 h2' h3 h4 hx1 hx0 H
    have a1 : (0 : Int) ≤ (q : Int) + 1 := by omega
    have a2 : (q : Int) + 1 < (n : Int) := by omega
    have a3 : (q : Int) < (n : Int) := by omega
    have a4 : (0 : Int) ≤ (q : Int) := by omega
    have a5 : ((q : Int) + 1).toNat = q + 1 := by omega
    have a6 : IntKind.i64.wrap (q : Int) = (q : Int) := by rw [IntKind.wrap_i64]; omega
    by_cases hxx : x1 = x0
    ·have t1 : ((x1 : Int) == (x0 : Int)) = true := by rw [beq_iff_eq]; omega
     go_wp2
     go_region
     go_wp2
     clear t1 c1 c0 a1 a2 a3 a4 a5 a6 hq1 hq0
     go_loopw [3, 5] (fun i j wr => ∃ (kk k2 : Nat), q + 1 ≤ kk ∧ kk ≤ q + k2 ∧ 1 ≤ k2 ∧ k2 + (q + 1) ≤ n ∧ i = .int .i64 kk ∧ j = .int .i64 k2 ∧ Hid (CompI Q w wr g n sz)) (fun _ j _ => n - (intOf j).toNat)
     case atStart => exact ⟨q + 1, 1, by omega, by omega, by omega, by omega, rfl, rfl, H1⟩
     case round =>
      clear H1
      obtain ⟨kk, k2, b1, b2, b3, b4, rfl, rfl, H⟩ := hrel
      by_cases hl2 : k2 + (q + 1) < n
      ·obtain ⟨r, rfl⟩ : ∃ r, k2 = r + 1 := ⟨k2 - 1, by omega⟩
       obtain ⟨cs, h1, h2', h3, h4⟩ := H.out
       obtain ⟨y1, hy1, hz1⟩ := h3.2 (q + 1 + (r + 1)) (by omega)
       obtain ⟨y0, hy0, hz0⟩ := h3.2 (q + 1 + r) (by omega)
       obtain ⟨yk, hyk, hzk⟩ := h3.2 kk (by omega)
       have c1 : wr.cell? ⟨g, q + 1 + (r + 1), none⟩ = some (.int .u64 (y1 : Int)) := by rw [h1.cell]; exact hz1
       have c0 : wr.cell? ⟨g, q + 1 + r, none⟩ = some (.int .u64 (y0 : Int)) := by rw [h1.cell]; exact hz0
       have ck : wr.cell? ⟨g, kk, none⟩ = some (.int .u64 (yk : Int)) := by rw [h1.cell]; exact hzk
       have zk := h1.frozen kk
       have HA : Hid (CompI Q w wr.drew g n sz) := ⟨cs, h1, h2', h3, h4.drew⟩
       have HB : Hid (CompI Q w (wr.setCell ⟨g, kk, none⟩ (.int .u64 (y1 : Int))).drew g n sz) := ⟨_, h1.set_ kk _, by simpa using h2', h3.set kk y1 (by omega) hy1, (h4.setCell (p := ⟨g, kk, none⟩) (.inl rfl) _).drew⟩
       clear h1 h2' h3 h4 hz1 hz0 hzk H
       have a1 : (0 : Int) ≤ (r : Int) + 1 := by omega
       have a2 : (r : Int) + 1 < ((n - (q + 1) : Nat) : Int) := by omega
       have a3 : (r : Int) < ((n - (q + 1) : Nat) : Int) := by omega
       have a4 : (0 : Int) ≤ (r : Int) := by omega
       have a5 : ((r : Int) + 1).toNat = r + 1 := by omega
       have a6 : IntKind.i64.wrap (r : Int) = (r : Int) := by rw [IntKind.wrap_i64]; omega
       have a7 : decide (((r + 1 : Nat) : Int) < ((n - (q + 1) : Nat) : Int)) = true := decide_eq_true (by omega)
       have a8 : (kk : Int) < (n : Int) := by omega
       have a9 : (0 : Int) ≤ (kk : Int) := by omega
       have a10 : decide (r + 1 < n - (q + 1)) = true := decide_eq_true (by omega)
       by_cases hyy : y1 = y0
       ·have t1 : ((y1 : Int) != (y0 : Int)) = false := by simp [hyy]
        go_wp2
        go_region
        go_wp2
        exact ⟨⟨kk, r + 2, by omega, by omega, by omega, by omega, rfl, by go_num, HA⟩, by simp [intOf]; omega⟩
       ·have t1 : ((y1 : Int) != (y0 : Int)) = true := by rw [bne_iff_ne]; omega
        go_wp2
        go_region
        go_wp2
        exact ⟨⟨kk + 1, r + 2, by omega, by omega, by omega, by omega, by go_num, by go_num, HB⟩, by simp [intOf]; omega⟩
      ·obtain ⟨cs, h1, h2', h3, h4⟩ := H.out
       have hcl : ∀ ty, (Builtin.clear_ #[33] ty #[.slice (some ⟨g, kk, none⟩) (n - kk) (cap - kk)]).run Tryz.prog wr = .ok (.tuple #[]) (wr.setCells g kk (List.replicate (n - kk) (.int .u64 0))) := fun ty =>
        Lib.run_clear_slice wr 33 23 ty (.int .u64 0) Tryz.underlying33 (fun _ => by kernel_rfl) rfl rfl g kk (n - kk) (cap - kk) (by omega) (fun j hj => by
         obtain ⟨x, _, hx⟩ := h3.2 (kk + j) (by omega)
         rw [h1.cell, hx]; rfl) (fun j _ => h1.frozen _)
       have HE : Hid (CompI Q w (wr.setCells g kk (List.replicate (n - kk) (.int .u64 0))) g kk sz) := by
        obtain ⟨cs', k1, k2', k3⟩ := blk_setCells (List.replicate (n - kk) (Value.int .u64 0)) kk h1
        refine ⟨cs', k1, by omega, ⟨by have := h3.1; omega, fun i hi => ?_⟩, chg_setCells (S := fun k => k = g) rfl _ _ h4⟩
        rw [k3 i hi]
        exact h3.2 i (by omega)
       clear h1 h2' h3 h4 H
       have a7 : decide ((k2 : Int) < ((n - (q + 1) : Nat) : Int)) = false := decide_eq_false (by omega)
       have a10 : decide (k2 < n - (q + 1)) = false := decide_eq_false (by omega)
       have a8 : (kk : Int) ≤ (n : Int) := by omega
       have a9 : (0 : Int) ≤ (kk : Int) := by omega
       have a11 : (kk : Int) ≤ (cap : Int) := by omega
       have a12 : ¬ cap = kk := by omega
       have a13 : ¬ kk = cap := by omega
       go_wp2
       go_ret
       exact ⟨kk, rfl, by omega, HE.out⟩
    ·have t1 : ((x1 : Int) == (x0 : Int)) = false := by rw [beq_eq_false_iff_ne]; omega
     go_wp2
     go_region
     go_wp2
     exact ⟨⟨q + 2, by omega, by omega, by go_num, H1⟩, by simp [intOf]; omega⟩
   ·obtain rfl : n = k := by omega
    go_wp2
    go_ret
    exact ⟨n, rfl, Nat.le_refl _, H.out⟩
end
section
open Go.RowKit
theorem look_core {a : DA} {L T : Nat} {w : World} {S : Fp} {cur : Nat → Nat} {F : Nat} (h : Dev a L T w S cur F) (c : Nat) (hc : c + 32 ≤ L) (V : Nat) (x0 x1 x2 : Int) (hv : cur (8 * c) = V)
  (hh : ∀ W, Below w.heap.size w W → Calls Tryz.prog 210 #[.int .u64 (V : Int)] W fun e w' => e = .returned (.tuple #[.agg #[.int .i64 x0, .int .i64 x1, .int .u16 x2], .bool true]) ∧ Below W.heap.size W w') :
  Calls Tryz.prog 160 #[memV a, .int .i64 (c : Int)] w fun e w' => e = .returned (.tuple #[.agg #[.int .i64 x0, .int .i64 x1, .int .u16 x2], .int .i64 0]) ∧ Below w.heap.size w w' := by
 have HLd := hid (load_at h (64 * c) V (by omega) (by omega) (by rw [show 64 * c / 8 = 8 * c by omega]; exact hv))
 have HD := hid h
 have HH := hid hh
 have hm := methLoad (some ⟨a.th 0, 0, none⟩)
 have hna := aheadLoad ⟨a.th 0, 0, none⟩
 have hmE := methErr (some ⟨a.th 0, 0, none⟩)
 have hmS := methSize (some ⟨a.th 0, 0, none⟩)
 have hq := eqMem (some ⟨a.th 0, 0, none⟩)
 have HB0 : Hid (Below w.heap.size w (w.alloc (.cells #[.int .i64 0, .int .i64 0, .int .u16 0] 219))) := (Below.refl _ _).alloc (Nat.le_refl _) _
 obtain ⟨ls, exe, per, cs, lsC, hdc, hnt⟩ := h.below HB0.out
 have hL := hdc.hL
 obtain ⟨f0, f2, _, _, f4⟩ := hdc.facts (j := 0) (by omega)
 have HBk := hid (Blk.new w 219 #[.int .i64 0, .int .i64 0, .int .u16 0])
 clear hdc hnt h hh
 unfold memV at *
 have e1 : decide ((c : Int) < 0) = false := decide_eq_false (by omega)
 have u1 : IntKind.u64.wrap ((L : Int) * 64) = (L : Int) * 64 := by rw [IntKind.wrap_u64]; omega
 have u3 : IntKind.u64.wrap (c : Int) = (c : Int) := by rw [IntKind.wrap_u64]; omega
 have u4 : IntKind.u64.wrap ((L : Int) - 32) = (L : Int) - 32 := by rw [IntKind.wrap_u64]; omega
 have u5 : IntKind.u64.wrap ((c : Int) * 64) = ((64 * c : Nat) : Int) := by rw [IntKind.wrap_u64]; omega
 have d1 : ((L : Int) * 64).tdiv 64 = (L : Int) := by rw [Int.mul_tdiv_cancel _ (by decide)]
 have e2 : decide ((L : Int) < 32) = false := decide_eq_false (by omega)
 have e3 : decide ((L : Int) - 32 < (c : Int)) = false := decide_eq_false (by omega)
 generalize 64 * c = z at *
 go_enter Tryz.func160, Tryz.ntmps160
 go_wp2
 generalize w.alloc (.cells #[.int .i64 0, .int .i64 0, .int .u16 0] 219) = W at *
 have HB1 : Hid (Below W.heap.size W W.drew) := (Below.refl _ _).drew
 have HB2 : Hid (Below w.heap.size w W.drew) := HB0.out.drew
 go_cut [8] from 38 to 44 (fun v wx => v = .int .u64 (V : Int) ∧ Hid (Below W.heap.size W wx))
 case first =>
  go_region_with (first | (go_at_call 53; refine (HLd.out _ HB2.out).mono ?_; rintro e w1 ⟨rfl, rfl⟩) | go_in)
  all_goals (go_wp2_with fail; go_meet; exact ⟨rfl, HB1⟩)
 case rest =>
  obtain ⟨rfl, HW⟩ := hcut
  have HWw := hid (HB0.out.trans (HW.out.mono HB0.out.size))
  obtain ⟨ls1, exe1, per1, cs1, lsC1, hdc1, hnt1⟩ := HD.out.below HWw.out
  obtain ⟨k0, _, _, _, k4⟩ := hdc1.facts (j := 0) (by omega)
  have HHw := hid (HH.out wc HWw.out)
  have HBc := hid (HBk.out.below HW.out HBk.out.lt)
  clear hdc1 hnt1
  go_wp2_with (first
   | (go_at_call 210; refine HHw.out.mono ?_; rintro e w1 ⟨rfl, hb1⟩; have HB3 := hid (HWw.out.trans (hb1.mono HWw.out.size)); have hk := HBc.out.below hb1 HBc.out.lt; have hlt := hk.lt; have c0 : w1.cell? ⟨w.heap.size, 0, none⟩ = some (.int .i64 0) := hk.cell 0; have c1 : w1.cell? ⟨w.heap.size, 1, none⟩ = some (.int .i64 0) := hk.cell 1; have c2 : w1.cell? ⟨w.heap.size, 2, none⟩ = some (.int .u16 0) := hk.cell 2; have z0 : w1.frozen? ⟨w.heap.size, 0, none⟩ = false := hk.frozen 0; have z1 : w1.frozen? ⟨w.heap.size, 1, none⟩ = false := hk.frozen 1; have z2 : w1.frozen? ⟨w.heap.size, 2, none⟩ = false := hk.frozen 2; clear hb1 hk)
   | go_in)
  refine bodyPost_ret (v := .tuple #[.agg #[.int .i64 x0, .int .i64 x1, .int .u16 x2], .int .i64 0]) (by simp [results, Tryz.results160, go_sem, c0, c1, c2, hlt]) rfl ⟨rfl, ?_⟩
  have h1 := ((HB3.out.setCell (p := ⟨w.heap.size, 0, none⟩) (Nat.le_refl _) (.int .i64 x0)).setCell (p := ⟨w.heap.size, 1, none⟩) (Nat.le_refl _) (.int .i64 x1)).setCell (p := ⟨w.heap.size, 2, none⟩) (Nat.le_refl _) (.int .u16 x2)
  exact h1.alloc h1.size _
end
section
open Go.RowKit
section
variable {a : DA} {L T : Nat} {w : World} {S : Fp} {cur : Nat → Nat} {F : Nat}
theorem start_any (ln : Nat) (hl : ln ≤ 1000000) (W : World) : Calls Tryz.prog 209 #[.int .i64 (ln : Int)] W fun e w' => e = .returned (.int .u64 ((64 * ln : Nat) : Int)) ∧ W = w' := by
 have u3 : IntKind.u64.wrap (ln : Int) = (ln : Int) := by rw [IntKind.wrap_u64]; omega
 have u5 : IntKind.u64.wrap ((ln : Int) * 64) = ((64 * ln : Nat) : Int) := by rw [IntKind.wrap_u64]; omega
 generalize 64 * ln = z at *
 go_enter Tryz.func209, Tryz.ntmps209
 go_wp2
 go_ret
 exact ⟨rfl, rfl⟩
def chCells (a : DA) (ln c g : Nat) : Array Value := #[memV a, .int .i64 (ln : Int), .int .i64 (c : Int), .int .i64 0, .int .u16 (g : Int)]
theorem bits_any (h : Dev a L T w S cur F) (ln cl g V : Nat) (hl : ln + 32 ≤ L) (hv : cur (8 * ln + 1) = V) : Calls Tryz.prog 211 #[chV a ln cl 0 g] w fun e w' => e = .returned (.int .u64 (V : Int)) ∧ Below w.heap.size w w' := by
 obtain ⟨_, _, _, _, _, hdc, _⟩ := id h
 have hL := hdc.hL
 clear hdc
 have HLd := hid (load_at h (64 * ln + 8) V (by omega) (by omega) (by rw [show (64 * ln + 8) / 8 = 8 * ln + 1 by omega]; exact hv))
 have HSt := hid (start_any ln (by omega))
 have hna := aheadLoad ⟨a.th 0, 0, none⟩
 have hm := methLoad (some ⟨a.th 0, 0, none⟩)
 have HB0 : Hid (Below w.heap.size w (w.alloc (.cells (chCells a ln cl g) 221))) := (Below.refl _ _).alloc (Nat.le_refl _) _
 have HK := hid (Blk.new w 221 (chCells a ln cl g))
 clear h hv
 unfold chV
 unfold chCells memV at *
 have hz : 64 * ln + 8 < 9000000000 := by omega
 have e1 : IntKind.u64.wrap (((64 * ln : Nat) : Int) + 8) = ((64 * ln + 8 : Nat) : Int) := by rw [IntKind.wrap_u64]; omega
 generalize 64 * ln + 8 = z8 at *
 generalize 64 * ln = z at *
 go_enter Tryz.func211, Tryz.ntmps211
 go_wp2_with fail
 generalize w.alloc (.cells #[.iface 41 (.pointer (some ⟨a.th 0, 0, none⟩)), .int .i64 (ln : Int), .int .i64 (cl : Int), .int .i64 0, .int .u16 (g : Int)] 221) = W at *
 have f0 : W.cell? ⟨w.heap.size, 0, none⟩ = some (.iface 41 (.pointer (some ⟨a.th 0, 0, none⟩))) := HK.out.cell 0
 have f1 : W.cell? ⟨w.heap.size, 1, none⟩ = some (.int .i64 (ln : Int)) := HK.out.cell 1
 have HB2 : Hid (Below w.heap.size w W.drew) := HB0.out.drew
 go_region_with (first
  | (go_at_call 53; refine (HLd.out _ HB2.out).mono ?_; rintro e w1 ⟨rfl, rfl⟩)
  | (go_at_call 209; refine (HSt.out _).mono ?_; rintro e w1 ⟨rfl, rfl⟩))
 all_goals (go_wp2; go_ret; exact ⟨rfl, HB2.out⟩)
theorem blkAt_any (ln cl g i : Nat) (hl : ln ≤ 1000000) (hc : cl < 5) (hi : i < perC cl) (w : World) (hp : Pay w) : Calls Tryz.prog 213 #[chV a ln cl 0 g, .int .i64 (i : Int)] w fun e w' => e = .returned (.int .u64 ((64 * ln + 8 * offB cl i : Nat) : Int)) ∧ Below w.heap.size w w' := by
 have hb : Below w.heap.size w (w.alloc (.cells (chCells a ln cl g) 221)) := (Below.refl _ _).alloc (Nat.le_refl _) _
 have HB0 := hid hb
 have HO := hid (offset_any cl i hc hi _ (hp.below hb))
 have HSt := hid (start_any ln (by omega))
 have ho := off_lt hi
 clear hb hp
 unfold chV
 unfold chCells memV at *
 have u1 : IntKind.u64.wrap (offB cl i : Int) = (offB cl i : Int) := by rw [IntKind.wrap_u64]; omega
 have u2 : IntKind.u64.wrap ((offB cl i : Int) * 8) = (offB cl i : Int) * 8 := by rw [IntKind.wrap_u64]; omega
 have u3 : IntKind.u64.wrap (((64 * ln : Nat) : Int) + (offB cl i : Int) * 8) = ((64 * ln + 8 * offB cl i : Nat) : Int) := by rw [IntKind.wrap_u64]; omega
 have hz : 64 * ln < 9000000000 := by omega
 generalize 64 * ln + 8 * offB cl i = zz at *
 generalize offB cl i = ob at *
 generalize 64 * ln = z at *
 clear ho
 go_enter Tryz.func213, Tryz.ntmps213
 go_wp2_with (first
  | (go_at_call 239; refine HO.out.mono ?_; rintro e w1 ⟨rfl, rfl⟩)
  | (go_at_call 209; refine (HSt.out _).mono ?_; rintro e w1 ⟨rfl, rfl⟩))
 go_ret
 exact ⟨rfl, HB0.out⟩
end
end
end Go.Proofs.YtnlokpakiambaaaGreatDoor
