/- The walks and laws that the claim leans on, part 10. -/
import Derived.Test.YtpihhlbfpbngaaaGreatDoorJai
namespace Go.Proofs.YtpihhlbfpbngaaaGreatDoor
open Go.RowKit
def pOff (p : Nat) : Nat := p % 4294967296 * 8
def pGen (p : Nat) : Nat := p / 4294967296 % 65536
def pKind (p : Nat) : Nat := p / 281474976710656 % 256
def pAt (p k : Nat) : Nat := if p = 0 ∨ 60 ≤ k then 0 else pOff p + 8 * k
def pMk (off gen kind : Nat) : Nat := off / 8 + gen * 4294967296 + kind * 281474976710656
theorem pMk_off {off gen kind : Nat} (h8 : off % 8 = 0) (ho : off < 34359738368) : pOff (pMk off gen kind) = off := by
  unfold pOff pMk; omega
theorem pMk_gen {off gen kind : Nat} (ho : off < 34359738368) (hg : gen < 65536) : pGen (pMk off gen kind) = gen := by
  unfold pGen pMk; omega
theorem pMk_kind {off gen kind : Nat} (ho : off < 34359738368) (hg : gen < 65536) (hk : kind < 256) : pKind (pMk off gen kind) = kind := by
  unfold pKind pMk; omega
theorem pMk_lt {off gen kind : Nat} (ho : off < 34359738368) (hg : gen < 65536) (hk : kind < 128) : pMk off gen kind < 18446744073709551616 ∧ pMk off gen kind / 72057594037927936 = 0 := by
  unfold pMk; omega
theorem pMk_ne {off gen kind : Nat} (hg : 0 < gen) : pMk off gen kind ≠ 0 := by
  unfold pMk; omega
section
set_option maxRecDepth 100000
set_option maxHeartbeats 1000000
theorem off_any (p : Nat) (w : World) : Calls Tryz.prog 68 #[.int .u64 (p : Int)] w fun e w' => e = .returned (.int .u64 (pOff p : Int)) ∧ w = w' := by
  have e1 : IntKind.u32.wrap (p : Int) = ((p % 4294967296 : Nat) : Int) := by rw [IntKind.wrap_u32]; omega
  have e2 : IntKind.u64.wrap ((p % 4294967296 : Nat) : Int) = ((p % 4294967296 : Nat) : Int) := by rw [IntKind.wrap_u64]; omega
  have HP : Hid ((pOff p : Int) = ((p % 4294967296 : Nat) : Int) * 8) := Lib.hid (by unfold pOff; omega)
  have h1 : p % 4294967296 < 4294967296 := by omega
  generalize pOff p = r at *
  generalize p % 4294967296 = q at *
  go_enter Tryz.func68, Tryz.ntmps68
  go_wp2
  go_ret
  exact ⟨by rw [HP.out]; rfl, rfl⟩
theorem gen_any (p : Nat) (w : World) : Calls Tryz.prog 199 #[.int .u64 (p : Int)] w fun e w' => e = .returned (.int .u16 (pGen p : Int)) ∧ w = w' := by
  have e1 : IntKind.u16.wrap ((p : Int) / 4294967296) = (pGen p : Int) := by unfold pGen; rw [IntKind.wrap_u16]; omega
  generalize pGen p = r at *
  go_enter Tryz.func199, Tryz.ntmps199
  go_wp2
  go_ret
  exact ⟨rfl, rfl⟩
theorem kind_any (p : Nat) (w : World) : Calls Tryz.prog 18 #[.int .u64 (p : Int)] w fun e w' => e = .returned (.int .u8 (pKind p : Int)) ∧ w = w' := by
  have e1 : IntKind.u8.wrap ((p : Int) / 281474976710656) = (pKind p : Int) := by unfold pKind; rw [IntKind.wrap_u8]; omega
  generalize pKind p = r at *
  go_enter Tryz.func18, Tryz.ntmps18
  go_wp2
  go_ret
  exact ⟨rfl, rfl⟩
theorem nil_any (p : Nat) (w : World) : Calls Tryz.prog 44 #[.int .u64 (p : Int)] w fun e w' => e = .returned (.bool (decide (p = 0))) ∧ w = w' := by
  have e1 : ((p : Int) == 0) = decide (p = 0) := by
    by_cases h : p = 0
    · subst h; rfl
    · rw [decide_eq_false h, beq_eq_false_iff_ne]; omega
  generalize decide (p = 0) = b at *
  go_enter Tryz.func44, Tryz.ntmps44
  go_wp2
  go_ret
  exact ⟨rfl, rfl⟩
theorem at_any (p k : Nat) (hk : k ≤ 1000000000) (w : World) : Calls Tryz.prog 24 #[.int .u64 (p : Int), .int .i64 (k : Int)] w fun e w' => e = .returned (.int .u64 (pAt p k : Int)) ∧ w = w' := by
  have HN := Lib.hid (nil_any p w)
  have HO := Lib.hid (off_any p w)
  have hk0 : (0 : Int) ≤ (k : Int) := by omega
  by_cases h0 : p = 0
  · have hr : (pAt p k : Int) = 0 := by unfold pAt; rw [if_pos (.inl h0)]; rfl
    rw [hr]
    rw [decide_eq_true h0] at HN
    clear hr h0
    go_enter Tryz.func24, Tryz.ntmps24
    go_wp2_with (go_at_call 44; refine HN.out.mono ?_; rintro e w1 ⟨rfl, rfl⟩)
    go_ret
    exact ⟨rfl, rfl⟩
  · rw [decide_eq_false h0] at HN
    by_cases h1 : 60 ≤ k
    · have hr : (pAt p k : Int) = 0 := by unfold pAt; rw [if_pos (.inr h1)]; rfl
      have d1 : decide (60 ≤ (k : Int)) = true := decide_eq_true (by omega)
      rw [hr]
      clear hr h0
      go_enter Tryz.func24, Tryz.ntmps24
      go_wp2_with (go_at_call 44; refine HN.out.mono ?_; rintro e w1 ⟨rfl, rfl⟩)
      go_ret
      exact ⟨rfl, rfl⟩
    · have hr : (pAt p k : Int) = (pOff p : Int) + 8 * (k : Int) := by unfold pAt; rw [if_neg (by omega)]; omega
      have d1 : decide (60 ≤ (k : Int)) = false := decide_eq_false (by omega)
      have u1 : IntKind.u64.wrap (k : Int) = (k : Int) := by rw [IntKind.wrap_u64]; omega
      have ho : pOff p ≤ 34359738368 := by unfold pOff; omega
      have HR := Lib.hid hr
      clear hr h0
      generalize pOff p = r at *
      generalize pAt p k = z at *
      go_enter Tryz.func24, Tryz.ntmps24
      go_wp2_with (first
        | (go_at_call 44; refine HN.out.mono ?_; rintro e w1 ⟨rfl, rfl⟩)
        | (go_at_call 68; refine HO.out.mono ?_; rintro e w1 ⟨rfl, rfl⟩))
      go_ret
      exact ⟨by rw [HR.out]; rfl, rfl⟩
theorem make_or (o g k : Nat) (ho : o < 4294967296) (hg : g < 65536) (hk : k < 256) : bits .or .u64 (bits .or .u64 (o : Int) ((g : Int) * 4294967296)) ((k : Int) * 281474976710656) = ((o + g * 4294967296 + k * 281474976710656 : Nat) : Int) := by
  rw [Go.u64_or32 (y := (o : Int)) (x := (g : Int) * 4294967296) (by omega) (by omega) (by omega) (by omega) (by omega)]
  rw [Go.u64_or48 (y := (o : Int) + (g : Int) * 4294967296) (x := (k : Int) * 281474976710656) (by omega) (by omega) (by omega) (by omega) (by omega)]
  omega
theorem ptrMake_any (off gen kind : Nat) (h8 : off % 8 = 0) (h0 : 0 < off) (ho : off ≤ 1000000000) (hg0 : 0 < gen) (hg : gen < 65536) (hk0 : 0 < kind) (hk : kind < 128) (w : World) :
    Calls Tryz.prog 269 #[.int .u64 (off : Int), .int .u16 (gen : Int), .int .u8 (kind : Int)] w fun e w' => e = .returned (.tuple #[.int .u64 (pMk off gen kind : Int), .int .i64 0]) ∧ w = w' := by
  have e1 : ((off : Int) == 0) = false := by rw [beq_eq_false_iff_ne]; omega
  have e2 : (off : Int) % 8 = 0 := by omega
  have e3 : ((gen : Int) == 0) = false := by rw [beq_eq_false_iff_ne]; omega
  have e4 : ((kind : Int) == 0) = false := by rw [beq_eq_false_iff_ne]; omega
  have e5 : decide (127 < (kind : Int)) = false := decide_eq_false (by omega)
  have e6 : decide (34359738360 < (off : Int)) = false := decide_eq_false (by omega)
  obtain ⟨o8, ho8⟩ : ∃ o8, off / 8 = o8 := ⟨_, rfl⟩
  have e7 : (off : Int) / 8 = (o8 : Int) := by omega
  have e8 : IntKind.u64.wrap (gen : Int) = (gen : Int) := by rw [IntKind.wrap_u64]; omega
  have e9 : IntKind.u64.wrap (kind : Int) = (kind : Int) := by rw [IntKind.wrap_u64]; omega
  have ea : bits .or .u64 (bits .or .u64 (o8 : Int) ((gen : Int) * 4294967296)) ((kind : Int) * 281474976710656) = (pMk off gen kind : Int) := by
    rw [make_or _ _ _ (by omega) hg (by omega)]; unfold pMk; rw [ho8]
  generalize pMk off gen kind = r at *
  go_enter Tryz.func269, Tryz.ntmps269
  go_wp2
  go_ret2
  exact ⟨rfl, rfl⟩
end
end Go.Proofs.YtpihhlbfpbngaaaGreatDoor
namespace Go.Proofs.YtpihhlbfpbngaaaGreatDoor
open Go.RowKit
structure OffOk (L s n o : Nat) : Prop where
  al : o % 8 = 0
  lt : o < 64 * L
  out : o < 64 * s ∨ 64 * s + 64 * n ≤ o
end Go.Proofs.YtpihhlbfpbngaaaGreatDoor
namespace Go.Proofs.YtpihhlbfpbngaaaGreatDoor
open Go.RowKit Go.Maps
structure EntOk (L s n : Nat) (ws : List (Nat × Nat)) : Prop where
  off : ∀ e ∈ ws, OffOk L s n e.1
  val : ∀ e ∈ ws, e.2 < 18446744073709551616
  few : ws.length ≤ 100
  some_ : ws ≠ []
end Go.Proofs.YtpihhlbfpbngaaaGreatDoor
namespace Go.Proofs.YtpihhlbfpbngaaaGreatDoor
open Go.RowKit
set_option maxRecDepth 100000 in
set_option maxHeartbeats 4000000 in
theorem look_core {a : DA} {L T : Nat} {w : World} {S : Fp} {cur : Nat → Nat} {F : Nat} (h : Dev a L T w S cur F) (c : Nat) (hc : c + 32 ≤ L) (V : Nat) (x0 x1 x2 : Int) (hv : cur (8 * c) = V)
    (hh : ∀ W, Below w.heap.size w W → Calls Tryz.prog 305 #[.int .u64 (V : Int)] W fun e w' => e = .returned (.tuple #[.agg #[.int .i64 x0, .int .i64 x1, .int .u16 x2], .bool true]) ∧ Below W.heap.size W w') :
    Calls Tryz.prog 251 #[memV a, .int .i64 (c : Int)] w fun e w' => e = .returned (.tuple #[.agg #[.int .i64 x0, .int .i64 x1, .int .u16 x2], .int .i64 0]) ∧ Below w.heap.size w w' := by
  have HLd := Lib.hid (load_at h (64 * c) V (by omega) (by omega) (by rw [show 64 * c / 8 = 8 * c by omega]; exact hv))
  have HD := Lib.hid h
  have HH := Lib.hid hh
  have hm := methLoad (some ⟨a.th 0, 0, none⟩)
  have hna := aheadLoad ⟨a.th 0, 0, none⟩
  have hmE := methErr (some ⟨a.th 0, 0, none⟩)
  have hmS := methSize (some ⟨a.th 0, 0, none⟩)
  have hq := eqMem (some ⟨a.th 0, 0, none⟩)
  have HB0 : Hid (Below w.heap.size w (w.alloc (.cells #[.int .i64 0, .int .i64 0, .int .u16 0] 260))) := (Below.refl _ _).alloc (Nat.le_refl _) _
  obtain ⟨ls, exe, per, cs, lsC, hdc, hnt⟩ := h.below HB0.out
  have hL := hdc.hL
  obtain ⟨f0, f2, _, _, f4⟩ := hdc.facts (j := 0) (by omega)
  have HBk := Lib.hid (Blk.new w 260 #[.int .i64 0, .int .i64 0, .int .u16 0])
  clear hdc hnt h hh
  unfold memV at *
  have e1 : decide ((c : Int) < 0) = false := decide_eq_false (by omega)
  have u1 : IntKind.u64.wrap ((L : Int) * 64) = (L : Int) * 64 := by rw [IntKind.wrap_u64]; omega
  have u3 : IntKind.u64.wrap (c : Int) = (c : Int) := by rw [IntKind.wrap_u64]; omega
  have u4 : IntKind.u64.wrap ((L : Int) - 32) = (L : Int) - 32 := by rw [IntKind.wrap_u64]; omega
  have u5 : IntKind.u64.wrap ((c : Int) * 64) = ((64 * c : Nat) : Int) := by rw [IntKind.wrap_u64]; omega
  have d1 : ((L : Int) * 64).tdiv 64 = (L : Int) := by rw [Int.mul_tdiv_cancel _ (by decide)]
  have e2 : decide ((L : Int) < 32) = false := decide_eq_false (by omega)
  have e3 : decide ((L : Int) - 32 < (c : Int)) = false := decide_eq_false (by omega)
  generalize 64 * c = z at *
  go_enter Tryz.func251, Tryz.ntmps251
  go_wp2
  generalize w.alloc (.cells #[.int .i64 0, .int .i64 0, .int .u16 0] 260) = W at *
  have HB1 : Hid (Below W.heap.size W W.drew) := (Below.refl _ _).drew
  have HB2 : Hid (Below w.heap.size w W.drew) := HB0.out.drew
  go_cut [8] from 38 to 44 (fun v wx => v = .int .u64 (V : Int) ∧ Hid (Below W.heap.size W wx))
  case first =>
    go_region_with (first | (go_at_call 62; refine (HLd.out _ HB2.out).mono ?_; rintro e w1 ⟨rfl, rfl⟩) | go_in)
    all_goals (go_wp2_with fail; go_meet; exact ⟨rfl, HB1⟩)
  case rest =>
    obtain ⟨rfl, HW⟩ := hcut
    have HWw := Lib.hid (HB0.out.trans (HW.out.mono HB0.out.size))
    obtain ⟨ls1, exe1, per1, cs1, lsC1, hdc1, hnt1⟩ := HD.out.below HWw.out
    obtain ⟨k0, _, _, _, k4⟩ := hdc1.facts (j := 0) (by omega)
    have HHw := Lib.hid (HH.out wc HWw.out)
    have HBc := Lib.hid (HBk.out.below HW.out HBk.out.lt)
    clear hdc1 hnt1
    go_wp2_with (first
      | (go_at_call 305; refine HHw.out.mono ?_; rintro e w1 ⟨rfl, hb1⟩; have HB3 := Lib.hid (HWw.out.trans (hb1.mono HWw.out.size)); have hk := HBc.out.below hb1 HBc.out.lt; have hlt := hk.lt; have c0 : w1.cell? ⟨w.heap.size, 0, none⟩ = some (.int .i64 0) := hk.cell 0; have c1 : w1.cell? ⟨w.heap.size, 1, none⟩ = some (.int .i64 0) := hk.cell 1; have c2 : w1.cell? ⟨w.heap.size, 2, none⟩ = some (.int .u16 0) := hk.cell 2; have z0 : w1.frozen? ⟨w.heap.size, 0, none⟩ = false := hk.frozen 0; have z1 : w1.frozen? ⟨w.heap.size, 1, none⟩ = false := hk.frozen 1; have z2 : w1.frozen? ⟨w.heap.size, 2, none⟩ = false := hk.frozen 2; clear hb1 hk)
      | go_in)
    refine bodyPost_ret (v := .tuple #[.agg #[.int .i64 x0, .int .i64 x1, .int .u16 x2], .int .i64 0]) (by simp [results, Tryz.results251, go_sem, c0, c1, c2, hlt]) rfl ⟨rfl, ?_⟩
    have h1 := ((HB3.out.setCell (p := ⟨w.heap.size, 0, none⟩) (Nat.le_refl _) (.int .i64 x0)).setCell (p := ⟨w.heap.size, 1, none⟩) (Nat.le_refl _) (.int .i64 x1)).setCell (p := ⟨w.heap.size, 2, none⟩) (Nat.le_refl _) (.int .u16 x2)
    exact h1.alloc h1.size _
end Go.Proofs.YtpihhlbfpbngaaaGreatDoor
namespace Go.Proofs.YtpihhlbfpbngaaaGreatDoor
open Go.RowKit
section
set_option maxRecDepth 100000
set_option maxHeartbeats 2000000
variable {a : DA} {L T : Nat} {w : World} {S : Fp} {cur : Nat → Nat} {F : Nat}
theorem start_any (ln : Nat) (hl : ln ≤ 1000000) (W : World) : Calls Tryz.prog 281 #[.int .i64 (ln : Int)] W fun e w' => e = .returned (.int .u64 ((64 * ln : Nat) : Int)) ∧ W = w' := by
  have u3 : IntKind.u64.wrap (ln : Int) = (ln : Int) := by rw [IntKind.wrap_u64]; omega
  have u5 : IntKind.u64.wrap ((ln : Int) * 64) = ((64 * ln : Nat) : Int) := by rw [IntKind.wrap_u64]; omega
  generalize 64 * ln = z at *
  go_enter Tryz.func281, Tryz.ntmps281
  go_wp2
  go_ret
  exact ⟨rfl, rfl⟩
def chCells (a : DA) (ln c g : Nat) : Array Value := #[memV a, .int .i64 (ln : Int), .int .i64 (c : Int), .int .i64 0, .int .u16 (g : Int)]
theorem bits_any (h : Dev a L T w S cur F) (ln cl g V : Nat) (hl : ln + 32 ≤ L) (hv : cur (8 * ln + 1) = V) : Calls Tryz.prog 300 #[chV a ln cl 0 g] w fun e w' => e = .returned (.int .u64 (V : Int)) ∧ Below w.heap.size w w' := by
  obtain ⟨_, _, _, _, _, hdc, _⟩ := id h
  have hL := hdc.hL
  clear hdc
  have HLd := Lib.hid (load_at h (64 * ln + 8) V (by omega) (by omega) (by rw [show (64 * ln + 8) / 8 = 8 * ln + 1 by omega]; exact hv))
  have HSt := Lib.hid (start_any ln (by omega))
  have hna := aheadLoad ⟨a.th 0, 0, none⟩
  have hm := methLoad (some ⟨a.th 0, 0, none⟩)
  have HB0 : Hid (Below w.heap.size w (w.alloc (.cells (chCells a ln cl g) 262))) := (Below.refl _ _).alloc (Nat.le_refl _) _
  have HK := Lib.hid (Blk.new w 262 (chCells a ln cl g))
  clear h hv
  unfold chV
  unfold chCells memV at *
  have hz : 64 * ln + 8 < 9000000000 := by omega
  have e1 : IntKind.u64.wrap (((64 * ln : Nat) : Int) + 8) = ((64 * ln + 8 : Nat) : Int) := by rw [IntKind.wrap_u64]; omega
  generalize 64 * ln + 8 = z8 at *
  generalize 64 * ln = z at *
  go_enter Tryz.func300, Tryz.ntmps300
  go_wp2_with fail
  generalize w.alloc (.cells #[.iface 35 (.pointer (some ⟨a.th 0, 0, none⟩)), .int .i64 (ln : Int), .int .i64 (cl : Int), .int .i64 0, .int .u16 (g : Int)] 262) = W at *
  have f0 : W.cell? ⟨w.heap.size, 0, none⟩ = some (.iface 35 (.pointer (some ⟨a.th 0, 0, none⟩))) := HK.out.cell 0
  have f1 : W.cell? ⟨w.heap.size, 1, none⟩ = some (.int .i64 (ln : Int)) := HK.out.cell 1
  have HB2 : Hid (Below w.heap.size w W.drew) := HB0.out.drew
  go_region_with (first
    | (go_at_call 62; refine (HLd.out _ HB2.out).mono ?_; rintro e w1 ⟨rfl, rfl⟩)
    | (go_at_call 281; refine (HSt.out _).mono ?_; rintro e w1 ⟨rfl, rfl⟩))
  all_goals (go_wp2; go_ret; exact ⟨rfl, HB2.out⟩)
theorem blkAt_any (ln cl g i : Nat) (hl : ln ≤ 1000000) (hc : cl < 5) (hi : i < perC cl) (w : World) (hp : Pay w) : Calls Tryz.prog 270 #[chV a ln cl 0 g, .int .i64 (i : Int)] w fun e w' => e = .returned (.int .u64 ((64 * ln + 8 * offB cl i : Nat) : Int)) ∧ Below w.heap.size w w' := by
  have hb : Below w.heap.size w (w.alloc (.cells (chCells a ln cl g) 262)) := (Below.refl _ _).alloc (Nat.le_refl _) _
  have HB0 := Lib.hid hb
  have HO := Lib.hid (offset_any cl i hc hi _ (hp.below hb))
  have HSt := Lib.hid (start_any ln (by omega))
  have ho := off_lt hi
  clear hb hp
  unfold chV
  unfold chCells memV at *
  have u1 : IntKind.u64.wrap (offB cl i : Int) = (offB cl i : Int) := by rw [IntKind.wrap_u64]; omega
  have u2 : IntKind.u64.wrap ((offB cl i : Int) * 8) = (offB cl i : Int) * 8 := by rw [IntKind.wrap_u64]; omega
  have u3 : IntKind.u64.wrap (((64 * ln : Nat) : Int) + (offB cl i : Int) * 8) = ((64 * ln + 8 * offB cl i : Nat) : Int) := by rw [IntKind.wrap_u64]; omega
  have hz : 64 * ln < 9000000000 := by omega
  generalize 64 * ln + 8 * offB cl i = zz at *
  generalize offB cl i = ob at *
  generalize 64 * ln = z at *
  clear ho
  go_enter Tryz.func270, Tryz.ntmps270
  go_wp2_with (first
    | (go_at_call 299; refine HO.out.mono ?_; rintro e w1 ⟨rfl, rfl⟩)
    | (go_at_call 281; refine (HSt.out _).mono ?_; rintro e w1 ⟨rfl, rfl⟩))
  go_ret
  exact ⟨rfl, HB0.out⟩
end
end Go.Proofs.YtpihhlbfpbngaaaGreatDoor
namespace Go.Proofs.YtpihhlbfpbngaaaGreatDoor
open Go.RowKit
theorem infoInstr : (Tryz.prog.info? 237).map (fun i => (i.zero, i.size, i.bytes)) = some (some (.agg #[.int .u8 0, .int .u64 0, .int .u64 0]), 3, 24) := by kernel_rfl
theorem infoU64 : (Tryz.prog.info? 26).map (fun i => (i.zero, i.size, i.bytes)) = some (some (.int .u64 0), 1, 8) := by kernel_rfl
def wrCells (ws : List (Nat × Nat)) : List Value := ws.flatMap fun p => [.int .u64 (p.1 : Int), .int .u64 (p.2 : Int)]
theorem wrCells_len (ws : List (Nat × Nat)) : (wrCells ws).length = ws.length * 2 := by
  induction ws with
  | nil => rfl
  | cons p ws ih => simp only [wrCells, List.flatMap_cons, List.length_append, List.length_cons, List.length_nil] at *; omega
theorem wrCells_at : ∀ (ws : List (Nat × Nat)) (k : Nat) (hk : k < ws.length), (wrCells ws)[k * 2]? = some (.int .u64 ((ws[k]).1 : Int)) ∧ (wrCells ws)[k * 2 + 1]? = some (.int .u64 ((ws[k]).2 : Int))
  | p :: ws, 0, _ => by simp [wrCells]
  | p :: ws, k + 1, h => by
    have ih := wrCells_at ws k (by simpa using h)
    simp only [wrCells, List.flatMap_cons] at *
    rw [List.getElem?_append_right (by simp; omega), List.getElem?_append_right (by simp; omega)]
    simp only [List.length_cons, List.length_nil, show (k + 1) * 2 - (0 + 1 + 1) = k * 2 by omega, show (k + 1) * 2 + 1 - (0 + 1 + 1) = k * 2 + 1 by omega]
    simpa using ih
theorem wr_facts {w : World} {B n : Nat} {A : Option Addr} {ws : List (Nat × Nat)} (h : Reads w B 2 A n (wrCells ws)) {k : Nat} (hk : k < n) :
    ∃ (hl : k < ws.length) (b off : Nat), A = some ⟨b, off, none⟩ ∧ b < B ∧ w.cell? ⟨b, off + k * 2, none⟩ = some (.int .u64 ((ws[k]).1 : Int)) ∧ w.cell? ⟨b, off + k * 2 + 1, none⟩ = some (.int .u64 ((ws[k]).2 : Int)) := by
  have hl : k < ws.length := by have := h.1; rw [wrCells_len] at this; omega
  obtain ⟨b, off, hA, hb, hc⟩ := h.plain (by omega) (by omega)
  exact ⟨hl, b, off, hA, hb, hc (k * 2) _ (wrCells_at ws k hl).1, hc (k * 2 + 1) _ (wrCells_at ws k hl).2⟩
def uCells (xs : List Nat) : List Value := xs.map fun x : Nat => Value.int .u64 (x : Int)
theorem uCells_one (xs : List Nat) : ∀ u ∈ uCells xs, u.oneCell' = true := by
  intro u hu
  simp only [uCells, List.mem_map] at hu
  obtain ⟨x, _, rfl⟩ := hu
  rfl
theorem own_own_ne {w : World} {b1 b2 : Nat} {e1 e2 : TypeId} {s1 s2 : Nat} {v1 v2 : Value} {n1 n2 : Nat} {x1 x2 : List Value} (h1 : w.ownsRow b1 e1 s1 v1 n1 x1) (h2 : w.ownsRow b2 e2 s2 v2 n2 x2) (hne : e1 ≠ e2) : v1.ownBlock = none ∨ v1.ownBlock ≠ v2.ownBlock := by
  rcases h1.2 with ⟨rfl, _⟩ | ⟨g, cap, cur, rfl, _, hh, _⟩
  · exact .inl rfl
  · right
    have := own_blk_ne h2 (show Blk w g e1 cur from hh) (Ne.symm hne)
    intro he
    exact this (by rw [← he]; rfl)
def lineOf (o : Nat) : Nat := o - o % 64
theorem line_reads (w : World) (o : Nat) : Reads (w.alloc (.cells #[.int .u64 ((o : Int) - (o : Int) % 64)] 26)) (w.heap.size + 1) 1 (some ⟨w.heap.size, 0, none⟩) 1 (uCells [lineOf o]) := by
  refine row_reads_at w _ rfl _ 1 1 26 _ ?_ rfl
  have e : ((lineOf o : Nat) : Int) = (o : Int) - (o : Int) % 64 := by unfold lineOf; omega
  simp only [uCells, List.map_cons, List.map_nil, e]
def stI (p : Nat × Nat) : Ins := .st p.1 p.2
structure StorI (w wr : World) (ws : List (Nat × Nat)) (k : Nat) (A1 : Option Addr) (m1 c1 : Nat) (A2 : Option Addr) (m2 c2 : Nat) : Prop where
  below : Below w.heap.size w wr
  prog : wr.ownsRow w.heap.size 237 3 (.slice A1 m1 c1) m1 (insCells ((ws.take k).map stI))
  lines : wr.ownsRow w.heap.size 26 1 (.slice A2 m2 c2) m2 (uCells ((ws.take k).map fun p => lineOf p.1))
  h1 : m1 = k
  h2 : m2 = k
section
variable {w wr w8 w9 : World} {ws : List (Nat × Nat)} {k : Nat} {A1 : Option Addr} {m1 c1 : Nat} {A2 : Option Addr} {m2 c2 : Nat} {e : Nat × Nat} {A3 : Option Addr} {n3 c3 : Nat} {A4 : Option Addr} {n4 c4 : Nat} {o : Obj}
theorem stor1 (H : StorI w wr ws k A1 m1 c1 A2 m2 c2) (hn3 : n3 = m1 + 1) (ho3 : w8.ownsRow w.heap.size 237 3 (.slice A3 n3 c3) n3 (insCells ((ws.take k).map stI) ++ (stI e).cells))
    (hg3 : ((wr.alloc (.cells #[.int .u64 (e.1 : Int), .int .u64 (e.2 : Int)] 76)).alloc o).grownBy w8 (Value.slice A1 m1 c1).ownBlock) (hb3 : Below w.heap.size ((wr.alloc (.cells #[.int .u64 (e.1 : Int), .int .u64 (e.2 : Int)] 76)).alloc o) w8) :
    Hid (w8.ownsRow w.heap.size 237 3 (.slice A3 n3 c3) n3 (insCells ((ws.take k).map stI) ++ (stI e).cells)) ∧ Hid (n3 = k + 1) ∧ Hid (Below w.heap.size w w8) ∧ Hid (w8.ownsRow w.heap.size 26 1 (.slice A2 m2 c2) m2 (uCells ((ws.take k).map fun p => lineOf p.1))) ∧
      w8.cell? ⟨wr.heap.size, 0, none⟩ = some (.int .u64 (e.1 : Int)) ∧ w.heap.size ≤ w8.heap.size := by
  have hsz := H.below.size
  have h1 := H.h1
  have hB : Below w.heap.size w w8 := ((H.below.alloc hsz _).alloc (by simp; omega) _).trans hb3
  have hblk := ((Blk.new wr 76 #[.int .u64 (e.1 : Int), .int .u64 (e.2 : Int)]).alloc o).grown hg3 (own_ne H.prog (g := wr.heap.size) (.inr (Nat.le_refl _)))
  exact ⟨ho3, show n3 = k + 1 by omega, hB, ((H.lines.alloc _).alloc _).kept hg3 (own_own_ne H.lines H.prog (by decide)), hblk.cell 0, hB.size⟩
theorem stor2 (h2 : m2 = k) (hTK : ws.take (k + 1) = ws.take k ++ [e]) (ho3 : w8.ownsRow w.heap.size 237 3 (.slice A3 n3 c3) n3 (insCells ((ws.take k).map stI) ++ (stI e).cells)) (hn3 : n3 = k + 1) (hB : Below w.heap.size w w8) (hL : w8.ownsRow w.heap.size 26 1 (.slice A2 m2 c2) m2 (uCells ((ws.take k).map fun p => lineOf p.1)))
    (hn4 : n4 = m2 + 1) (ho4 : w9.ownsRow w.heap.size 26 1 (.slice A4 n4 c4) n4 (uCells ((ws.take k).map fun p => lineOf p.1) ++ uCells [lineOf e.1])) (hg4 : (w8.alloc o).grownBy w9 (Value.slice A2 m2 c2).ownBlock) (hb4 : Below w.heap.size (w8.alloc o) w9) : StorI w w9 ws (k + 1) A3 n3 c3 A4 n4 c4 := by
  refine ⟨(hB.alloc hB.size _).trans hb4, ?_, ?_, hn3, by omega⟩
  · rw [hTK, List.map_append, insCells_app]
    have e1 : insCells (List.map stI [e]) = (stI e).cells := by simp [insCells]
    rw [e1]
    exact (ho3.alloc _).kept hg4 (own_own_ne ho3 hL (by decide))
  · rw [hTK, List.map_append]
    have e1 : uCells (List.map (fun p : Nat × Nat => lineOf p.1) (ws.take k) ++ List.map (fun p : Nat × Nat => lineOf p.1) [e]) = uCells ((ws.take k).map fun p => lineOf p.1) ++ uCells [lineOf e.1] := by simp [uCells]
    rw [e1]
    exact ho4
end
theorem own_row {w : World} {base g m c : Nat} {xs : List Nat} (h : w.ownsRow base 26 1 (.slice (some ⟨g, 0, none⟩) m c) m (uCells xs)) : ∃ cur, Blk w g 26 cur ∧ cur.size = c ∧ RowU cur xs ∧ xs.length = m := by
  have hl : xs.length = m := by have := h.1; simpa [uCells] using this
  rcases h.2 with ⟨hv, _⟩ | ⟨g', cap', cur, hv, hb, hh, h1, h2, h3, h4⟩
  · cases hv
  · simp only [Value.slice.injEq, Option.some.injEq, Addr.mk.injEq, and_true, true_and] at hv
    obtain ⟨rfl, rfl⟩ := hv
    refine ⟨cur, hh, by omega, ⟨by omega, fun i hi => ?_⟩, hl⟩
    have h5 : (cur.toList.take (m * 1))[i]? = (uCells xs)[i]? := by rw [h4]
    rw [List.getElem?_take_of_lt (by omega)] at h5
    rw [← Array.getElem?_toList, h5]
    simp [uCells, hi]
def FlI (w wr : World) (ws : List (Nat × Nat)) (g m1 j : Nat) (cs : Array Value) (A1 : Option Addr) (n1 c1 : Nat) : Prop :=
  ∃ fs : List Nat, Below w.heap.size w wr ∧ Blk wr g 26 cs ∧ wr.ownsRow w.heap.size 237 3 (.slice A1 n1 c1) n1 (insCells (ws.map stI ++ fs.map Ins.fl)) ∧ fs.length = j ∧ n1 = m1 + j ∧ ∀ o ∈ fs, ∃ e ∈ ws, o = lineOf e.1
theorem fl1 {w wr w8 : World} {ws : List (Nat × Nat)} {g m1 j : Nat} {cs : Array Value} {A1 : Option Addr} {n1 c1 : Nat} {A3 : Option Addr} {n3 c3 x : Nat} {o : Obj} {fs : List Nat} (hB : Below w.heap.size w wr) (hG : Blk wr g 26 cs) (hP : wr.ownsRow w.heap.size 237 3 (.slice A1 n1 c1) n1 (insCells (ws.map stI ++ fs.map Ins.fl))) (hf : fs.length = j) (hn1 : n1 = m1 + j) (hq : ∀ o ∈ fs, ∃ e ∈ ws, o = lineOf e.1)
    (hx : ∃ e ∈ ws, x = lineOf e.1) (hn3 : n3 = n1 + 1) (ho3 : w8.ownsRow w.heap.size 237 3 (.slice A3 n3 c3) n3 (insCells (ws.map stI ++ fs.map Ins.fl) ++ (Ins.fl x).cells)) (hg3 : (wr.alloc o).grownBy w8 (Value.slice A1 n1 c1).ownBlock) (hb3 : Below w.heap.size (wr.alloc o) w8) : FlI w w8 ws g m1 (j + 1) cs A3 n3 c3 := by
  refine ⟨fs ++ [x], (hB.alloc hB.size _).trans hb3, (hG.alloc o).grown hg3 (fun e => own_blk_ne hP hG (by decide) e.symm), ?_, by simp [hf], by omega, fun y hy => ?_⟩
  · have e1 : insCells (ws.map stI ++ (fs ++ [x]).map Ins.fl) = insCells (ws.map stI ++ fs.map Ins.fl) ++ (Ins.fl x).cells := by simp [insCells]
    rw [e1]; exact ho3
  · rw [List.mem_append, List.mem_singleton] at hy
    rcases hy with hy | rfl
    · exact hq y hy
    · exact hx
def IsStores (ws : List (Nat × Nat)) (p : List Ins) : Prop := ∃ fs : List Nat, p = ws.map stI ++ fs.map Ins.fl ++ [Ins.fe] ∧ fs.length ≤ ws.length ∧ ∀ o ∈ fs, ∃ e ∈ ws, o = lineOf e.1
def RetProg (w : World) (P : List Ins → Prop) (e : Ending) (w' : World) : Prop := ∃ A m c p, e = .returned (.slice A m c) ∧ P p ∧ w'.ownsRow w.heap.size 237 3 (.slice A m c) m (insCells p) ∧ Below w.heap.size w w'
set_option maxRecDepth 100000 in
set_option maxHeartbeats 8000000 in
theorem stores_small (A : Option Addr) (n c : Nat) (ws : List (Nat × Nat)) (w : World) (h : Reads w w.heap.size 2 A n (wrCells ws)) (h0 : 0 < n) (hn : n ≤ 1000) (hv : ∀ e ∈ ws, e.1 < 18446744073709551616) :
    Calls Tryz.prog 71 #[.slice A n c] w (RetProg w (IsStores ws)) := by
  have HR := Lib.hid h
  have HLN := Lib.hid (show ws.length = n by have := h.1; rw [wrCells_len] at this; omega)
  have HV := Lib.hid hv
  obtain ⟨j0, hj0, hk0, hk1, hk2⟩ := info_parts infoU64
  have hmk : ∀ W : World, (Instr.makeSlice 46 (.int .i64 0) (.int .i64 (n : Int))).run Tryz.prog W = .ok (.slice (some ⟨W.heap.size, 0, none⟩) 0 n) (W.alloc (.cells (madeCells (Value.int .u64 0).cells n) 26)) := fun W => by
    have h := run_makeSlice (P := Tryz.prog) W 46 26 j0 (.int .u64 0) Tryz.underlying46 hj0 hk0 .i64 .i64 0 (n : Int) (by omega) (by omega) (by rw [hk1]; omega) (by rw [hk2]; omega) (by omega)
    rw [hk1] at h
    simpa using h
  have hM : (madeCells (Value.int .u64 0).cells n).size = n * 1 := by rw [size_madeCells]; simp
  generalize madeCells (Value.int .u64 0).cells n = M at *
  have HI0 : Hid (∀ C : Nat, StorI w (w.alloc (.cells M 26)) ws 0 none 0 0 (some ⟨w.heap.size, 0, none⟩) 0 n) := fun _ =>
    ⟨(Below.refl _ _).alloc (Nat.le_refl _) _, World.ownsRow_nil _ _ _ _, World.ownsRow_made w M n (Nat.le_refl _) (by unfold maxLen; omega) hM, rfl, rfl⟩
  have e0 : ((n : Int) == 0) = false := by rw [beq_eq_false_iff_ne]; omega
  obtain ⟨i0, hi0, hz0, hz1, hz2⟩ := info_parts infoInstr
  clear h hv hM
  go_enter Tryz.func71, Tryz.ntmps71
  go_wp2
  clear hmk
  go_loopw [3, 4, 17] (fun p l i wr => ∃ (k : Nat) (A1 : Option Addr) (m1 c1 : Nat) (A2 : Option Addr) (m2 c2 : Nat), k ≤ n ∧ i = .int .i64 k ∧ p = .slice A1 m1 c1 ∧ l = .slice A2 m2 c2 ∧ Hid (StorI w wr ws k A1 m1 c1 A2 m2 c2)) (fun _ _ i _ => n - (intOf i).toNat)
  case atStart => exact ⟨0, _, _, _, _, _, _, Nat.zero_le _, rfl, rfl, rfl, HI0.out 0⟩
  case round =>
    clear HI0
    obtain ⟨k, A1, m1, c1, A2, m2, c2, hk, rfl, rfl, rfl, H⟩ := hrel
    by_cases hlt : k < n
    · obtain ⟨hl, b, off, hA, hbB, f0, f1⟩ := wr_facts (HR.out.below H.out.below) hlt
      subst hA
      have HTK : Hid ((ws.take (k + 1)) = ws.take k ++ [ws[k]]) := List.take_succ_eq_append_getElem hl
      have hvk := HV.out ws[k] (List.getElem_mem hl)
      generalize ws[k] = e at *
      have q1 : m1 ≤ k := by have := H.out.h1; omega
      have q2 : m2 ≤ k := by have := H.out.h2; omega
      have hz0' : (0 : Int) ≤ (k : Int) := by omega
      have hz1' : (k : Int) < (n : Int) := by omega
      have u1 : IntKind.u64.wrap ((e.1 : Int) - (e.1 : Int) % 64) = (e.1 : Int) - (e.1 : Int) % 64 := by rw [IntKind.wrap_u64]; omega
      have hsz : w.heap.size ≤ wr.heap.size := H.out.below.size
      go_wp2_with (first
        | (at_builtin; refine wpList_app _ (.tmp 21) (.tmp 27) 136 rfl rfl w.heap.size 237 i0 _ 3 24 Tryz.underlying136 hi0 hz0 hz1 hz2 rfl ?q1 (.slice A1 m1 c1) m1 (insCells ((ws.take k).map stI)) rfl ?q0 (wr.heap.size + 1 + 1) (some ⟨wr.heap.size + 1, 0, none⟩) 1 1 (stI e).cells rfl ?q5 (Ins.cells_one (stI e)) ?q2 ?q3 ?q4 ?_; (case q1 => omega); (case q0 => exact (H.out.prog.alloc _).alloc _); (case q5 => exact row_reads_at _ _ (by simp) _ 1 3 237 _ rfl rfl); (case q2 => (unfold maxLen; omega)); (case q3 => omega); (case q4 => (simp; omega)); intro A3 n3 c3 w8 hn3 ho3 hg3 hb3; obtain ⟨HO3, HN3, HB8, HL8, g0, hs8⟩ := stor1 H.out hn3 ho3 hg3 hb3; clear hn3 ho3 hg3 hb3)
        | (at_builtin; refine wpList_app _ (.tmp 29) (.tmp 33) 46 rfl rfl w.heap.size 26 j0 _ 1 8 Tryz.underlying46 hj0 hk0 hk1 hk2 rfl ?r1 (.slice A2 m2 c2) m2 (uCells ((ws.take k).map fun p => lineOf p.1)) rfl ?r0 (w8.heap.size + 1) (some ⟨w8.heap.size, 0, none⟩) 1 1 (uCells [lineOf e.1]) rfl ?r5 (uCells_one [lineOf e.1]) ?r2 ?r3 ?r4 ?_; (case r1 => omega); (case r0 => exact HL8.out.alloc _); (case r5 => exact line_reads w8 e.1); (case r2 => (unfold maxLen; omega)); (case r3 => omega); (case r4 => (simp; omega)); intro A4 n4 c4 w9 hn4 ho4 hg4 hb4; have HI := Lib.hid (stor2 H.out.h2 HTK.out HO3.out HN3.out HB8.out HL8.out hn4 ho4 hg4 hb4); clear hn4 ho4 hg4 hb4)
        | go_in)
      exact ⟨⟨k + 1, _, _, _, _, _, _, by omega, by go_num, rfl, rfl, HI⟩, by simp [intOf]; omega⟩
    · obtain rfl : n = k := by omega
      obtain ⟨hB, hP, hL, h1, h2⟩ := H.out
      rw [List.take_of_length_le (by rw [HLN.out]; exact Nat.le_refl _)] at hP hL
      have b1 : m1 ≤ n := by omega
      have b2 : m2 ≤ n := by omega
      have b3 : n ≤ m2 := by omega
      obtain ⟨g, cap, hve, hgb, hglt⟩ := hL.form (by omega)
      have hA2 : A2 = some ⟨g, 0, none⟩ := by injection hve
      subst hA2
      obtain ⟨cur, hcb, hcs, hru, hxl⟩ := own_row hL
      have hcap := own_cap hL
      have HS := Lib.hid (sort_small g m2 c2 c2 (ws.map fun p => lineOf p.1) wr ⟨cur, _, hcb, hcs, hru, List.Perm.refl _, Chg.refl _ _⟩ hxl (by omega) hcap.1 hcap.2)
      have HP := Lib.hid hP
      have HBl := Lib.hid hB
      have HCB := Lib.hid hcb
      clear hve hL hP hB hcb hcs hru H h1 h2 hglt
      go_wp2_with fail
      refine HS.out.mono ?_
      rintro e w5 ⟨rfl, cs5, ys, hb5, hsz5, hru5, hpm5, hch5⟩
      have HP5 := Lib.hid (hch5.own HP.out (fun g' hg' e => own_blk_ne HP.out HCB.out (by decide) (by rw [hg', e])))
      have HB5 : Hid (Below w.heap.size w w5) := HBl.out.trans (hch5.toBelow HBl.out.size (fun k hk => by subst hk; exact hgb))
      have HQ := Lib.hid (compact_any (fun x => ∃ e ∈ ws, x = lineOf e.1) g m2 c2 c2 w5 ⟨cs5, hb5, hsz5, ⟨by omega, fun i hi => by
        have hil : i < ys.length := by rw [hpm5.length_eq, hxl]; exact hi
        refine ⟨ys[i], ?_, hru5.2 i hil⟩
        have := (hpm5.mem_iff).1 (List.getElem_mem hil)
        rw [List.mem_map] at this
        obtain ⟨e, he, hee⟩ := this
        exact ⟨e, he, hee.symm⟩⟩, Chg.refl _ _⟩ (by omega) hcap.1 hcap.2)
      have HCB5 := Lib.hid hb5
      clear hb5 hsz5 hru5 hpm5 hch5 HS HP HBl HCB
      go_wp2_with fail
      refine HQ.out.mono ?_
      rintro e w6 ⟨m3, rfl, hm3, cs6, hb6, hsz6, hq6, hch6⟩
      have HP6 := Lib.hid (hch6.own HP5.out (fun g' hg' e => own_blk_ne HP5.out HCB5.out (by decide) (by rw [hg', e])))
      have HI0 : Hid (FlI w w6 ws g m1 0 cs6 A1 m1 c1) := ⟨[], HB5.out.trans (hch6.toBelow HB5.out.size (fun k hk => by subst hk; exact hgb)), hb6, by simpa using HP6.out, rfl, rfl, fun _ h => by cases h⟩
      have HQ6 := Lib.hid hq6
      clear hb6 hsz6 hq6 hch6 HP5 HB5 HCB5 HQ HP6
      go_wp2
      go_loopw [3, 41] (fun p i wr => ∃ (j : Nat) (A1 : Option Addr) (n1 c1 : Nat), j ≤ m3 ∧ i = .int .i64 j ∧ p = .slice A1 n1 c1 ∧ Hid (FlI w wr ws g m1 j cs6 A1 n1 c1)) (fun _ i _ => m3 - (intOf i).toNat)
      case atStart => exact ⟨0, _, _, _, Nat.zero_le _, rfl, rfl, HI0⟩
      case round =>
        clear HI0
        obtain ⟨j, B1, n1, d1, hj, rfl, rfl, H⟩ := hrel
        obtain ⟨fs, hB, hG, hP, hf, hn1, hq⟩ := H.out
        have b4 : n1 ≤ m1 + j := by omega
        have hsz := hB.size
        by_cases hlt : j < m3
        · obtain ⟨x, hx, hxc⟩ := HQ6.out.2 j hlt
          have c0 : wr.cell? ⟨g, j, none⟩ = some (.int .u64 (x : Int)) := by rw [hG.cell]; exact hxc
          have HF := Lib.hid (fun (A3 : Option Addr) (n3 c3 : Nat) (w8 : World) (o : Obj) h1 h2 h3 h4 => fl1 (A3 := A3) (n3 := n3) (c3 := c3) (w8 := w8) (o := o) hB hG hP hf hn1 hq hx h1 h2 h3 h4)
          have HP := Lib.hid hP
          have hz0' : (0 : Int) ≤ (j : Int) := by omega
          have hz1' : (j : Int) < (m3 : Int) := by omega
          clear hB hG hP hf hn1 hq hx hxc H
          go_wp2_with (first
            | (at_builtin; refine wpList_app _ (.tmp 45) (.tmp 48) 136 rfl rfl w.heap.size 237 i0 _ 3 24 Tryz.underlying136 hi0 hz0 hz1 hz2 rfl ?q1 (.slice B1 n1 d1) n1 (insCells (ws.map stI ++ fs.map Ins.fl)) rfl ?q0 (wr.heap.size + 1) (some ⟨wr.heap.size, 0, none⟩) 1 1 (Ins.fl x).cells rfl ?q5 (Ins.cells_one (Ins.fl x)) ?q2 ?q3 ?q4 ?_; (case q1 => omega); (case q0 => exact HP.out.alloc _); (case q5 => exact row_reads_at _ _ rfl _ 1 3 237 _ rfl rfl); (case q2 => (unfold maxLen; omega)); (case q3 => omega); (case q4 => (simp; omega)); intro A3 n3 c3 w8 hn3 ho3 hg3 hb3; have HN := Lib.hid (HF.out A3 n3 c3 w8 _ hn3 ho3 hg3 hb3); clear hn3 ho3 hg3 hb3)
            | go_in)
          exact ⟨⟨j + 1, _, _, _, by omega, by go_num, rfl, HN⟩, by simp [intOf]; omega⟩
        · obtain rfl : m3 = j := by omega
          have HP := Lib.hid hP
          have HBl := Lib.hid hB
          have HFQ := Lib.hid hq
          have HFL : Hid (fs.length ≤ ws.length) := show _ ≤ _ by rw [HLN.out, hf]; omega
          clear hB hG hP hf hn1 hq H
          go_wp2_with (first
            | (at_builtin; refine wpList_app _ (.tmp 51) (.tmp 53) 136 rfl rfl w.heap.size 237 i0 _ 3 24 Tryz.underlying136 hi0 hz0 hz1 hz2 rfl ?q1 (.slice B1 n1 d1) n1 (insCells (ws.map stI ++ fs.map Ins.fl)) rfl ?q0 (wr.heap.size + 1) (some ⟨wr.heap.size, 0, none⟩) 1 1 Ins.fe.cells rfl ?q5 (Ins.cells_one Ins.fe) ?q2 ?q3 ?q4 ?_; (case q1 => omega); (case q0 => exact HP.out.alloc _); (case q5 => exact row_reads_at _ _ rfl _ 1 3 237 _ rfl rfl); (case q2 => (unfold maxLen; omega)); (case q3 => omega); (case q4 => (simp; omega)); intro A3 n3 c3 w8 hn3 ho3 hg3 hb3; have HO := Lib.hid ho3; have HBB := Lib.hid hb3; clear hn3 ho3 hg3 hb3)
            | go_in)
          go_ret
          refine ⟨A3, n3, c3, ws.map stI ++ fs.map Ins.fl ++ [Ins.fe], rfl, ⟨fs, rfl, HFL.out, HFQ.out⟩, ?_, (HBl.out.alloc hsz _).trans HBB.out⟩
          have := HO.out
          rw [insCells_app]
          simpa [insCells] using this
end Go.Proofs.YtpihhlbfpbngaaaGreatDoor
