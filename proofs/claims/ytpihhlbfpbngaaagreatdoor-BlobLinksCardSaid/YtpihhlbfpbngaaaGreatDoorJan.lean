/- The walks and laws that the claim leans on, part 14. -/
import Derived.Test.YtpihhlbfpbngaaaGreatDoorJam
namespace Go.Proofs.YtpihhlbfpbngaaaGreatDoor
open Go.RowKit
def dirCells (a : DA) (h r : Nat) : Array Value := #[.pointer (some ⟨h, 0, none⟩), .pointer (some ⟨a.th 0, 0, none⟩), .pointer (some ⟨r, 0, none⟩)]
def dirV (d : Nat) : Value := .iface 37 (.pointer (some ⟨d, 0, none⟩))
theorem methDStore (p : Option Addr) (w : World) : (method 519 37 (.pointer p) "Store").run Tryz.prog w = .ok (366, .pointer p) w := by kernel_rfl
theorem methDFlush (p : Option Addr) (w : World) : (method 519 37 (.pointer p) "Flush").run Tryz.prog w = .ok (363, .pointer p) w := by kernel_rfl
theorem methDFence (p : Option Addr) (w : World) : (method 519 37 (.pointer p) "Fence").run Tryz.prog w = .ok (362, .pointer p) w := by kernel_rfl
theorem methDLoad (p : Option Addr) (w : World) : (method 519 37 (.pointer p) "Load").run Tryz.prog w = .ok (364, .pointer p) w := by kernel_rfl
theorem methDErr (p : Option Addr) (w : World) : (method 519 37 (.pointer p) "Err").run Tryz.prog w = .ok (361, .pointer p) w := by kernel_rfl
theorem methDSize (p : Option Addr) (w : World) : (method 519 37 (.pointer p) "Size").run Tryz.prog w = .ok (365, .pointer p) w := by kernel_rfl
section
set_option maxRecDepth 100000
set_option maxHeartbeats 1000000
variable {a : DA} {L T : Nat} {w : World} {S : Fp} {cur : Nat → Nat} {F : Nat} {d g r : Nat}
theorem storeD (h : Dev a L T w S cur 0) (hB : Blk w d 143 (dirCells a g r)) (off v : Nat) (h8 : off % 8 = 0) (hlt : off < 64 * L) (hT : T < 1000000000) :
    Calls Tryz.prog 366 #[.pointer (some ⟨d, 0, none⟩), .int .u64 (off : Int), .int .u64 (v : Int)] w (RetDev a L (T + 1) w S (upd cur (off / 8) v) 0 (.tuple #[])) := by
  have HD := Lib.hid (store_dev h off v h8 hlt hT)
  have c1 : w.cell? ⟨d, 1, none⟩ = some (.pointer (some ⟨a.th 0, 0, none⟩)) := hB.cell 1
  clear h hB
  go_enter Tryz.func366, Tryz.ntmps366
  go_wp2_with fail
  refine HD.out.mono ?_
  rintro e w1 ⟨rfl, S1, hd1, hc1, hg1⟩
  have HE := Lib.hid (show Dev a L (T + 1) w1 S1 (upd cur (off / 8) v) 0 ∧ Chg S w w1 ∧ Grew S S1 w from ⟨hd1, hc1, hg1⟩)
  clear hd1 hc1 hg1
  go_wp2
  go_end0
  exact ⟨rfl, S1, HE.out.1, HE.out.2.1, HE.out.2.2⟩
theorem flushD (h : Dev a L T w S cur F) (hB : Blk w d 143 (dirCells a g r)) (off : Nat) (hlt : off < 64 * L) (hF : F < 1000000000) :
    Calls Tryz.prog 363 #[.pointer (some ⟨d, 0, none⟩), .int .u64 (off : Int)] w (RetDev a L T w S cur (F + 1) (.tuple #[])) := by
  have HD := Lib.hid (flush_dev h off hlt hF)
  have c1 : w.cell? ⟨d, 1, none⟩ = some (.pointer (some ⟨a.th 0, 0, none⟩)) := hB.cell 1
  clear h hB
  go_enter Tryz.func363, Tryz.ntmps363
  go_wp2_with fail
  refine HD.out.mono ?_
  rintro e w1 ⟨rfl, S1, hd1, hc1, hg1⟩
  have HE := Lib.hid (show Dev a L T w1 S1 cur (F + 1) ∧ Chg S w w1 ∧ Grew S S1 w from ⟨hd1, hc1, hg1⟩)
  clear hd1 hc1 hg1
  go_wp2
  go_end0
  exact ⟨rfl, S1, HE.out.1, HE.out.2.1, HE.out.2.2⟩
theorem fenceD (h : Dev a L T w S cur F) (hB : Blk w d 143 (dirCells a g r))  :
    Calls Tryz.prog 362 #[.pointer (some ⟨d, 0, none⟩)] w (RetDev a L T w S cur 0 (.tuple #[])) := by
  have HD := Lib.hid (fence_dev h)
  have c1 : w.cell? ⟨d, 1, none⟩ = some (.pointer (some ⟨a.th 0, 0, none⟩)) := hB.cell 1
  clear h hB
  go_enter Tryz.func362, Tryz.ntmps362
  go_wp2_with fail
  refine HD.out.mono ?_
  rintro e w1 ⟨rfl, S1, hd1, hc1, hg1⟩
  have HE := Lib.hid (show Dev a L T w1 S1 cur 0 ∧ Chg S w w1 ∧ Grew S S1 w from ⟨hd1, hc1, hg1⟩)
  clear hd1 hc1 hg1
  go_wp2
  go_end0
  exact ⟨rfl, S1, HE.out.1, HE.out.2.1, HE.out.2.2⟩
theorem loadD (h : Dev a L T w S cur F) (hB : Blk w d 143 (dirCells a g r)) (off v : Nat) (h8 : off % 8 = 0) (hlt : off < 64 * L) (hv : cur (off / 8) = v) :
    Calls Tryz.prog 364 #[.pointer (some ⟨d, 0, none⟩), .int .u64 (off : Int)] w (fun e w' => e = .returned (.int .u64 (v : Int)) ∧ w = w') := by
  have HD := Lib.hid (load_at h off v h8 hlt hv w (Below.refl _ _))
  have c1 : w.cell? ⟨d, 1, none⟩ = some (.pointer (some ⟨a.th 0, 0, none⟩)) := hB.cell 1
  clear h hB
  go_enter Tryz.func364, Tryz.ntmps364
  go_wp2_with fail
  refine HD.out.mono ?_
  rintro e w1 ⟨rfl, rfl⟩
  go_wp2
  go_ret
  exact ⟨rfl, rfl⟩
theorem errD (h : Dev a L T w S cur F) (hB : Blk w d 143 (dirCells a g r))  :
    Calls Tryz.prog 361 #[.pointer (some ⟨d, 0, none⟩)] w (fun e w' => e = .returned (.int .i64 0) ∧ w = w') := by
  have HD := Lib.hid (thErr h)
  have c1 : w.cell? ⟨d, 1, none⟩ = some (.pointer (some ⟨a.th 0, 0, none⟩)) := hB.cell 1
  clear h hB
  go_enter Tryz.func361, Tryz.ntmps361
  go_wp2_with fail
  refine HD.out.mono ?_
  rintro e w1 ⟨rfl, rfl⟩
  go_wp2
  go_ret
  exact ⟨rfl, rfl⟩
theorem sizeD (h : Dev a L T w S cur F) (hB : Blk w d 143 (dirCells a g r))  :
    Calls Tryz.prog 365 #[.pointer (some ⟨d, 0, none⟩)] w (fun e w' => e = .returned (.int .u64 ((64 * L : Nat) : Int)) ∧ w = w') := by
  have HD := Lib.hid (size_dev h)
  rw [show ((64 * L : Nat) : Int) = (L : Int) * 64 by omega] at *
  have c1 : w.cell? ⟨d, 1, none⟩ = some (.pointer (some ⟨a.th 0, 0, none⟩)) := hB.cell 1
  clear h hB
  go_enter Tryz.func365, Tryz.ntmps365
  go_wp2_with fail
  refine HD.out.mono ?_
  rintro e w1 ⟨rfl, rfl⟩
  go_wp2
  go_ret
  exact ⟨rfl, rfl⟩
end
set_option maxRecDepth 100000 in
set_option maxHeartbeats 4000000 in
theorem execD_st {a : DA} {L T : Nat} {w : World} {S : Fp} {cur : Nat → Nat} {d g r : Nat} (h : Dev a L T w S cur 0) (hB : Blk w d 143 (dirCells a g r)) (off v : Nat) (h8 : off % 8 = 0) (hlt : off < 64 * L) (hT : T < 1000000000) :
    Calls Tryz.prog 157 #[.agg #[.int .u8 1, .int .u64 (off : Int), .int .u64 (v : Int)], dirV d] w (RetDev a L (T + 1) w S (upd cur (off / 8) v) 0 (.tuple #[])) := by
  have HW := Lib.hid (fun o => h.below ((Below.refl _ w).alloc (Nat.le_refl _) o))
  have HBD := Lib.hid (fun o => hB.alloc o)
  clear h hB
  have hm := methDStore (some ⟨d, 0, none⟩)
  unfold dirV
  go_enter Tryz.func157, Tryz.ntmps157
  go_wp2_with fail
  refine (storeD (HW.out _) (HBD.out _) off v h8 hlt hT).mono ?_
  rintro e w1 ⟨rfl, S1, hd1, hc1, hg1⟩
  have HD := Lib.hid hd1
  have HC : Hid (Chg S w w1) := ((Chg.refl S w).alloc _).trans hc1 (Grew.refl _ _)
  have HG : Hid (Grew S S1 w) := fun k hk => (hg1 k hk).imp id (fun h => by simp at h; omega)
  clear hd1 hc1 hg1
  go_wp2
  go_end0
  exact ⟨rfl, S1, HD.out, HC.out, HG.out⟩
set_option maxRecDepth 100000 in
set_option maxHeartbeats 4000000 in
theorem execD_fl {a : DA} {L T : Nat} {w : World} {S : Fp} {cur : Nat → Nat} {F : Nat} {d g r : Nat} (h : Dev a L T w S cur F) (hB : Blk w d 143 (dirCells a g r)) (off : Nat) (hlt : off < 64 * L) (hF : F < 1000000000) :
    Calls Tryz.prog 157 #[.agg #[.int .u8 2, .int .u64 (off : Int), .int .u64 0], dirV d] w (RetDev a L T w S cur (F + 1) (.tuple #[])) := by
  have HW := Lib.hid (fun o => h.below ((Below.refl _ w).alloc (Nat.le_refl _) o))
  have HBD := Lib.hid (fun o => hB.alloc o)
  clear h hB
  have hm := methDFlush (some ⟨d, 0, none⟩)
  unfold dirV
  go_enter Tryz.func157, Tryz.ntmps157
  go_wp2_with fail
  refine (flushD (HW.out _) (HBD.out _) off hlt hF).mono ?_
  rintro e w1 ⟨rfl, S1, hd1, hc1, hg1⟩
  have HD := Lib.hid hd1
  have HC : Hid (Chg S w w1) := ((Chg.refl S w).alloc _).trans hc1 (Grew.refl _ _)
  have HG : Hid (Grew S S1 w) := fun k hk => (hg1 k hk).imp id (fun h => by simp at h; omega)
  clear hd1 hc1 hg1
  go_wp2
  go_end0
  exact ⟨rfl, S1, HD.out, HC.out, HG.out⟩
set_option maxRecDepth 100000 in
set_option maxHeartbeats 4000000 in
theorem execD_fe {a : DA} {L T : Nat} {w : World} {S : Fp} {cur : Nat → Nat} {F : Nat} {d g r : Nat} (h : Dev a L T w S cur F) (hB : Blk w d 143 (dirCells a g r))  :
    Calls Tryz.prog 157 #[.agg #[.int .u8 3, .int .u64 0, .int .u64 0], dirV d] w (RetDev a L T w S cur 0 (.tuple #[])) := by
  have HW := Lib.hid (fun o => h.below ((Below.refl _ w).alloc (Nat.le_refl _) o))
  have HBD := Lib.hid (fun o => hB.alloc o)
  clear h hB
  have hm := methDFence (some ⟨d, 0, none⟩)
  unfold dirV
  go_enter Tryz.func157, Tryz.ntmps157
  go_wp2_with fail
  refine (fenceD (HW.out _) (HBD.out _)).mono ?_
  rintro e w1 ⟨rfl, S1, hd1, hc1, hg1⟩
  have HD := Lib.hid hd1
  have HC : Hid (Chg S w w1) := ((Chg.refl S w).alloc _).trans hc1 (Grew.refl _ _)
  have HG : Hid (Grew S S1 w) := fun k hk => (hg1 k hk).imp id (fun h => by simp at h; omega)
  clear hd1 hc1 hg1
  go_wp2
  go_end0
  exact ⟨rfl, S1, HD.out, HC.out, HG.out⟩
theorem execD_any {a : DA} {L T : Nat} {w : World} {S : Fp} {cur : Nat → Nat} {F : Nat} {d g r : Nat} (h : Dev a L T w S cur F) (hB : Blk w d 143 (dirCells a g r)) (i : Ins) (b : Bool) (hg : goodI L b i) (hb : b = false → F = 0) (hT : T < 1000000000) (hF : F < 1000000000) :
    Calls Tryz.prog 157 #[.agg #[.int .u8 (i.op : Int), .int .u64 (i.o : Int), .int .u64 (i.v : Int)], dirV d] w (RetIns a L (T + 1) w S (runI cur i) F (noteI b i)) := by
  cases i with
  | st o v =>
    obtain ⟨h1, h2, h3, _⟩ := hg
    have hF0 := hb h1
    subst hF0
    refine (execD_st h hB o v h2 h3 hT).mono ?_
    rintro e w' ⟨rfl, S', hd, hc, hgr⟩
    exact ⟨rfl, S', 0, hd, fun _ => rfl, Nat.zero_le _, hc, hgr⟩
  | fl o =>
    refine (execD_fl h hB o hg hF).mono ?_
    rintro e w' ⟨rfl, S', hd, hc, hgr⟩
    exact ⟨rfl, S', F + 1, hd.more (by omega) (by omega), fun h => (by cases h), Nat.le_refl _, hc, hgr⟩
  | fe =>
    refine (execD_fe h hB).mono ?_
    rintro e w' ⟨rfl, S', hd, hc, hgr⟩
    exact ⟨rfl, S', 0, hd.more (by omega) (by omega), fun _ => rfl, Nat.zero_le _, hc, hgr⟩
def RunDI (a : DA) (L T : Nat) (w wr : World) (S : Fp) (cur : Nat → Nat) (p : List Ins) (k : Nat) : Prop :=
  ∃ S' F', Dev a L (T + k) wr S' (runP cur (p.take k)) F' ∧ (noteP false (p.take k) = false → F' = 0) ∧ F' ≤ k ∧ Chg S w wr ∧ Grew S S' w
set_option maxRecDepth 100000 in
set_option maxHeartbeats 4000000 in
theorem runD_any {a : DA} {L T : Nat} {w : World} {S : Fp} {cur : Nat → Nat} {d g r : Nat} (h : Dev a L T w S cur 0) (hB : Blk w d 143 (dirCells a g r)) (hdS : ¬ S d) (A : Option Addr) (n c : Nat) (p : List Ins) (hr : Reads w w.heap.size 3 A n (insCells p)) (hoff : ∀ ad, A = some ad → ¬ S ad.block) (hg : goodP L false p) (hn : n ≤ 1000000) (hT : T + n ≤ 1000000000) :
    Calls Tryz.prog 73 #[.slice A n c, dirV d] w (RetDev a L (T + n) w S (runP cur p) 0 (.int .i64 0)) := by
  have HV := Lib.hid (validP_any A n c p w hr hn)
  have HLN := Lib.hid (show p.length = n by have := hr.1; rw [insCells_len] at this; omega)
  have HR := Lib.hid hr
  have HOF := Lib.hid hoff
  have HGD := Lib.hid hg
  have HD0 := Lib.hid h
  have HSL := Lib.hid h.lt
  have hmE := methDErr (some ⟨d, 0, none⟩)
  have hq : ∀ W, (binOp .eql 145 (.iface 37 (.pointer (some ⟨d, 0, none⟩))) .nilIface).run Tryz.prog W = .ok (.bool false) W := fun W => by rfl
  have HBB := Lib.hid (show Blk w d _ _ ∧ ¬ S d from ⟨hB, hdS⟩)
  clear h hr hoff hg hB hdS
  unfold dirV
  go_enter Tryz.func73, Tryz.ntmps73
  go_wp2_with (go_at_call 156; refine HV.out.mono ?_; rintro e w1 ⟨rfl, hb1⟩; have HI0 : Hid (RunDI a L T w w1 S cur p 0) := ⟨S, 0, HD0.out.below hb1, fun _ => rfl, Nat.le_refl _, Chg.of_below hb1, Grew.refl _ _⟩; clear hb1)
  go_loopw [16] (fun i wr => ∃ (k : Nat), k ≤ n ∧ i = .int .i64 k ∧ Hid (RunDI a L T w wr S cur p k)) (fun i _ => n - (Go.RowKit.intOf i).toNat)
  case atStart => exact ⟨0, Nat.zero_le _, rfl, HI0⟩
  case round =>
    clear HI0 HD0 HV
    obtain ⟨k, hk, rfl, H⟩ := hrel
    by_cases hlt : k < n
    · obtain ⟨S1, F1, hd, hf, hF1, hC, hG⟩ := H.out
      obtain ⟨hl, b, off, hA, hbB, f0, f1, f2⟩ := ins_facts (hC.reads HR.out (Nat.le_refl _) HOF.out) hlt
      subst hA
      have hgi := goodP_at HGD.out k hl
      have HEX := Lib.hid (fun o => execD_any (hd.below ((Below.refl _ wr).alloc (Nat.le_refl _) o)) ((hC.blk HBB.out.1 HBB.out.2).alloc o) p[k] (noteP false (p.take k)) hgi hf (by omega) (by omega))
      have HRP : Hid (runI (runP cur (p.take k)) p[k] = runP cur (p.take (k + 1))) := show _ = _ by rw [List.take_succ_eq_append_getElem hl, runP_snoc]
      have HNP : Hid (noteI (noteP false (p.take k)) p[k] = noteP false (p.take (k + 1))) := show _ = _ by rw [List.take_succ_eq_append_getElem hl, noteP_app]; rfl
      rw [HRP.out, HNP.out] at HEX
      have HC := Lib.hid hC
      have HG := Lib.hid hG
      unfold dirV at HEX
      generalize (p[k]).op = op at *
      generalize (p[k]).o = o at *
      generalize (p[k]).v = v at *
      have hz0 : (0 : Int) ≤ (k : Int) := by omega
      have hz1 : (k : Int) < (n : Int) := by omega
      clear hgi hd hf hC hG H HRP HNP
      go_wp2_with fail
      refine (HEX.out _).mono ?_
      rintro e w2 ⟨rfl, S2, F2, hd2, hf2, hF2, hC2, hG2⟩
      have HN : Hid (RunDI a L T w w2 S cur p (k + 1)) := ⟨S2, F2, by rw [← Nat.add_assoc]; exact hd2, hf2, by omega, HC.out.trans (S' := S1) (((Chg.refl S1 wr).alloc _).trans hC2 (Grew.refl _ _)) HG.out, HG.out.trans (w1 := wr) (fun j hj => (hG2 j hj).imp id (fun h => by simp at h; omega)) HC.out.size⟩
      clear hd2 hf2 hF2 hC2 hG2
      go_wp2
      go_roundw
      case rel => exact ⟨k + 1, by omega, by go_num, HN⟩
      case measure => simp [Go.RowKit.intOf]; omega
    · obtain rfl : n = k := by omega
      obtain ⟨S1, F1, hd, hf, hF1, hC, hG⟩ := H.out
      rw [List.take_of_length_le (by rw [HLN.out]; exact Nat.le_refl _)] at hd hf
      have hF0 := hf (goodP_end HGD.out)
      subst hF0
      have HD := Lib.hid hd
      have HC := Lib.hid hC
      have HG := Lib.hid hG
      have HER := Lib.hid (errD hd (hC.blk HBB.out.1 HBB.out.2))
      clear hd hC hG hf H
      go_wp2_with (go_at_call 361; refine HER.out.mono ?_; rintro e w2 ⟨rfl, rfl⟩)
      go_ret
      exact ⟨rfl, S1, HD.out, HC.out, HG.out⟩
end Go.Proofs.YtpihhlbfpbngaaaGreatDoor
namespace Go.Proofs.YtpihhlbfpbngaaaGreatDoor
open Go.RowKit
set_option maxRecDepth 100000 in
set_option maxHeartbeats 4000000 in
theorem arenaValid_any {a : DA} {L T : Nat} {w : World} {S : Fp} {cur : Nat → Nat} {F : Nat} (h : Dev a L T w S cur F) (s n : Nat) (hn : 32 ≤ n) (hs : s + n ≤ L) :
    Calls Tryz.prog 228 #[memV a, .int .i64 (s : Int), .int .i64 (n : Int)] w fun e w' => e = .returned (.bool true) ∧ w = w' := by
  obtain ⟨ls, exe, per, cs, lsC, hdc, hnt⟩ := h
  have hL := hdc.hL
  obtain ⟨f0, f2, _, _, _⟩ := hdc.facts (j := 0) (by omega)
  clear hdc hnt
  have hq := eqMem (some ⟨a.th 0, 0, none⟩)
  have hmS := methSize (some ⟨a.th 0, 0, none⟩)
  unfold memV
  have e1 : decide ((s : Int) < 0) = false := decide_eq_false (by omega)
  have e2 : decide ((n : Int) < 32) = false := decide_eq_false (by omega)
  have u1 : IntKind.u64.wrap ((L : Int) * 64) = (L : Int) * 64 := by rw [IntKind.wrap_u64]; omega
  have u2 : IntKind.u64.wrap (n : Int) = (n : Int) := by rw [IntKind.wrap_u64]; omega
  have u3 : IntKind.u64.wrap (s : Int) = (s : Int) := by rw [IntKind.wrap_u64]; omega
  have u4 : IntKind.u64.wrap ((L : Int) - (s : Int)) = (L : Int) - (s : Int) := by rw [IntKind.wrap_u64]; omega
  have d1 : ((L : Int) * 64).tdiv 64 = (L : Int) := by rw [Int.mul_tdiv_cancel _ (by decide)]
  have d2 : (n : Int).tdiv 32 = (n : Int) / 32 := by rw [Int.tdiv_eq_ediv_of_nonneg (by omega)]
  have e3 : decide ((L : Int) < (s : Int)) = false := decide_eq_false (by omega)
  have e4 : decide ((L : Int) - (s : Int) < (n : Int)) = false := decide_eq_false (by omega)
  have u5 : IntKind.u64.wrap ((n : Int) / 32) = (n : Int) / 32 := by rw [IntKind.wrap_u64]; omega
  have u6 : IntKind.u64.wrap ((n : Int) / 32 * 32) = (n : Int) / 32 * 32 := by rw [IntKind.wrap_u64]; omega
  have u7 : IntKind.u64.wrap ((s : Int) + (n : Int) / 32 * 32) = (s : Int) + (n : Int) / 32 * 32 := by rw [IntKind.wrap_u64]; omega
  have e5 : decide ((s : Int) + (n : Int) / 32 * 32 ≤ 4096) = true := decide_eq_true (by omega)
  go_enter Tryz.func228, Tryz.ntmps228
  go_wp2
  go_ret
  exact ⟨rfl, rfl⟩
def arC (cur : Nat → Nat) (s : Nat) : Nat → Nat → Nat
  | 0 => cur
  | k + 1 => wrS (arC cur s k) [(64 * (s + 32 * k), freeW 1)]
def AreI (a : DA) (L T : Nat) (w wr : World) (S : Fp) (cur : Nat → Nat) (s k : Nat) : Prop := ∃ S', Dev a L (T + 3 * k) wr S' (arC cur s k) 0 ∧ Chg S w wr ∧ Grew S S' w
theorem freeW_lt (o : Nat) (ho : o < 65536) : freeW o < 18446744073709551616 := sealW_lt _ (by omega)
set_option maxRecDepth 100000 in
set_option maxHeartbeats 4000000 in
theorem arenaFormat_any {a : DA} {L T : Nat} {w : World} {S : Fp} {cur : Nat → Nat} (h : Dev a L T w S cur 0) (ht : Tab w) (hg : ¬ S 0) (s n K : Nat) (hn : 32 ≤ n) (hs : s + n ≤ L) (hK : n / 32 = K) (hT : T + 3 * K ≤ 1000000000) :
    Calls Tryz.prog 134 #[memV a, .int .i64 (s : Int), .int .i64 (n : Int)] w (RetDev a L (T + 3 * K) w S (arC cur s K) 0 (.int .i64 0)) := by
  have HV := Lib.hid (arenaValid_any h s n hn hs)
  have HI0 : Hid (AreI a L T w w S cur s 0) := ⟨S, h, Chg.refl _ _, Grew.refl _ _⟩
  have HG := Lib.hid hg
  have HT := Lib.hid ht
  obtain ⟨ls, exe, per, cs, lsC, hdc, hnt⟩ := h
  have hL := hdc.hL
  obtain ⟨f0, _, _, _, g2⟩ := hdc.facts (j := 0) (by omega)
  have hmE := methErr (some ⟨a.th 0, 0, none⟩)
  have d2 : (n : Int).tdiv 32 = (K : Int) := by rw [Int.tdiv_eq_ediv_of_nonneg (by omega)]; omega
  have d3 : (n : Int) / 32 = (K : Int) := by omega
  have hK32 : K * 32 ≤ n := by omega
  clear hdc hnt ht hg hK
  unfold memV at *
  go_enter Tryz.func134, Tryz.ntmps134
  go_wp2_with (first
    | (go_at_call 228; refine HV.out.mono ?_; rintro e w1 ⟨rfl, rfl⟩)
    | go_in)
  clear f0 g2 HV
  go_loopw [24] (fun i wr => ∃ (k : Nat), k ≤ K ∧ i = .int .i64 k ∧ Hid (AreI a L T w wr S cur s k)) (fun i _ => K - (intOf i).toNat)
  case atStart => exact ⟨0, Nat.zero_le _, rfl, HI0⟩
  case round =>
    clear HI0
    obtain ⟨k, hk, rfl, H⟩ := hrel
    by_cases hlt : k < K
    · obtain ⟨S1, hd, hc, hgr⟩ := H.out
      have HC := Lib.hid (clear_any (s + 32 * k) 1 (by omega) (by omega) (by omega) wr (HT.out.chg hc HG.out))
      have HR : Hid (∀ (A : Option Addr) (m c : Nat) (p : List Ins) (w1 : World), IsStores [(64 * (s + 32 * k), freeW 1)] p → w1.ownsRow wr.heap.size 237 3 (.slice A m c) m (insCells p) → Below wr.heap.size wr w1 →
          Calls Tryz.prog 73 #[.slice A m c, memV a] w1 (fun e w2 => e = .returned (.int .i64 0) ∧ AreI a L T w w2 S cur s (k + 1))) := fun A m c p w1 hp ho hb => by
        refine (run_stores (hd.below hb) ho hd.lt hp (fun e he => by simp only [List.mem_singleton] at he; subst he; exact ⟨by omega, by omega, freeW_lt 1 (by omega)⟩) (by simp) (by simp; omega)).mono ?_
        intro e w2 h2
        obtain ⟨he, S2, hd2, hc2, hg2⟩ := RetDev.then_ hc hgr (RetDev.back hb h2)
        exact ⟨he, S2, hd2.more (by simp; omega) (by omega), hc2, hg2⟩
      have e7 : ((s + 32 * k : Nat) : Int) = (s : Int) + (k : Int) * 32 := by omega
      rw [e7] at HC
      generalize 64 * (s + 32 * k) = z at *
      clear hd hc hgr e7 H
      unfold memV at *
      go_wp2_with (first
        | (go_at_call 229; refine HC.out.mono ?_; rintro e w1 ⟨A1, m1, c1, p1, rfl, hp1, ho1, hb1⟩; have HRR := Lib.hid (HR.out A1 m1 c1 p1 w1 hp1 ho1 hb1); clear hp1 ho1 hb1)
        | (go_at_call 73; refine HRR.out.mono ?_; rintro e w2 ⟨rfl, h2⟩; have HZ := Lib.hid h2; clear h2)
        | go_in)
      go_roundw
      case rel =>
        repeat apply Exists.intro
        refine ⟨?_, rfl⟩
        exact ⟨k + 1, by omega, by go_num, HZ⟩
      case measure => simp [intOf]; omega
    · obtain rfl : k = K := by omega
      obtain ⟨S1, hd, hc, hgr⟩ := H.out
      have HZ := Lib.hid (show ∃ S', Dev a L (T + 3 * k) wr S' (arC cur s k) 0 ∧ Chg S w wr ∧ Grew S S' w from H.out)
      obtain ⟨ls, exe, per, cs, lsC, hdc, hnt⟩ := hd
      obtain ⟨f0, _, _, _, g2⟩ := hdc.facts (j := 0) (by omega)
      clear hdc hnt hc hgr H
      go_wp2
      go_ret
      exact ⟨rfl, HZ.out⟩
end Go.Proofs.YtpihhlbfpbngaaaGreatDoor
namespace Go.Proofs.YtpihhlbfpbngaaaGreatDoor
open Go.RowKit
set_option maxRecDepth 100000 in
set_option maxHeartbeats 4000000 in
theorem header_free (w : World) (ht : Tab w) :
    Calls Tryz.prog 305 #[.int .u64 (freeW 1 : Int)] w fun e w' => e = .returned (.tuple #[.agg #[.int .i64 (-1), .int .i64 (-1), .int .u16 1], .bool true]) ∧ Below w.heap.size w w' := by
  have HS := Lib.hid (fun (W : World) (hW : Below w.heap.size w W) => seal_any 3305111553 (by omega) W (ht.below hW))
  have hf : freeW 1 = sealW 3305111553 := rfl
  have hs : IntKind.u32.wrap (sealW 3305111553 : Int) = 3305111553 := by
    rw [IntKind.wrap_u32']
    unfold sealW
    omega
  rw [hf]
  generalize sealW 3305111553 = z at *
  have HB0 : Hid (∀ x, Below w.heap.size w (w.alloc x)) := fun x => (Below.refl _ _).alloc (Nat.le_refl _) x
  have b1 : bits .and .u32 50432 15 = 0 := by decide
  have b2 : bits .and .u32 3152 15 = 0 := by decide
  have b3 : IntKind.u16.wrap 3305111553 = 1 := by decide
  have q1 : ((z : Int) == (z : Int)) = true := by simp
  clear ht hf
  go_enter Tryz.func305, Tryz.ntmps305
  go_wp2_with (go_at_call 313; refine (HS.out _ (HB0.out _)).mono ?_; rintro e w1 ⟨rfl, hb1⟩; have HB1 := Lib.hid hb1; have hk := (Blk.new w 260 #[.int .i64 0, .int .i64 0, .int .u16 0]).below hb1 (Blk.new w 260 #[.int .i64 0, .int .i64 0, .int .u16 0]).lt; have hlt := hk.lt; have c0 : w1.cell? ⟨w.heap.size, 0, none⟩ = some (.int .i64 0) := hk.cell 0; have c1 : w1.cell? ⟨w.heap.size, 1, none⟩ = some (.int .i64 0) := hk.cell 1; have c2 : w1.cell? ⟨w.heap.size, 2, none⟩ = some (.int .u16 0) := hk.cell 2; have z0 : w1.frozen? ⟨w.heap.size, 0, none⟩ = false := hk.frozen 0; have z1 : w1.frozen? ⟨w.heap.size, 1, none⟩ = false := hk.frozen 1; have z2 : w1.frozen? ⟨w.heap.size, 2, none⟩ = false := hk.frozen 2; clear hb1 hk)
  have n01 : (⟨w.heap.size, 0, none⟩ : Addr) ≠ ⟨w.heap.size, 1, none⟩ := by simp
  have n02 : (⟨w.heap.size, 0, none⟩ : Addr) ≠ ⟨w.heap.size, 2, none⟩ := by simp
  have n12 : (⟨w.heap.size, 1, none⟩ : Addr) ≠ ⟨w.heap.size, 2, none⟩ := by simp
  refine bodyPost_ret (v := .tuple #[.agg #[.int .i64 (-1), .int .i64 (-1), .int .u16 1], .bool true]) (by simp [results, Tryz.results305, go_sem, c0, c1, c2, hlt]) rfl ⟨rfl, ?_⟩
  have h0 := (HB0.out (.cells #[.int .i64 0, .int .i64 0, .int .u16 0] 260)).trans (HB1.out.mono (by simp))
  have h1 := ((h0.setCell (p := ⟨w.heap.size, 0, none⟩) (Nat.le_refl _) (.int .i64 (-1))).setCell (p := ⟨w.heap.size, 1, none⟩) (Nat.le_refl _) (.int .i64 (-1))).setCell (p := ⟨w.heap.size, 2, none⟩) (Nat.le_refl _) (.int .u16 1)
  exact h1.alloc h1.size _
end Go.Proofs.YtpihhlbfpbngaaaGreatDoor
namespace Go.Proofs.YtpihhlbfpbngaaaGreatDoor
open Go.RowKit
def hdX (c g : Nat) : Nat := g + (c + 1) * 65536 + 1048576 + 3305111552
def hdrW (c g : Nat) : Nat := sealW (hdX c g)
section
set_option maxRecDepth 100000
set_option maxHeartbeats 2000000
theorem formatted_any (c g : Nat) (hc : c < 5) (w : World) (hp : Pay w) : Calls Tryz.prog 297 #[.agg #[.int .i64 (c : Int), .int .i64 0, .int .u16 (g : Int)]] w fun e w' => e = .returned (.bool true) ∧ Below w.heap.size w w' := by
  have hb : Below w.heap.size w (w.alloc (.cells #[.int .i64 (c : Int), .int .i64 0, .int .u16 (g : Int)] 260)) := (Below.refl _ w).alloc (Nat.le_refl _) _
  have HB := Lib.hid hb
  have HP := Lib.hid (perChunk_any c hc _ (hp.below hb))
  have d1 : (0 : Int) < (perC c : Int) := by have := per_le c; omega
  clear hp hb
  generalize perC c = r at *
  go_enter Tryz.func297, Tryz.ntmps297
  go_wp2_with (go_at_call 201; refine HP.out.mono ?_; rintro e w1 ⟨rfl, rfl⟩)
  go_ret
  exact ⟨rfl, HB.out⟩
theorem header_undiv (g : Nat) (hg0 : 0 < g) (hg : g < 65536) (w : World) (ht : Tab w) :
    Calls Tryz.prog 305 #[.int .u64 (freeW g : Int)] w fun e w' => e = .returned (.tuple #[.agg #[.int .i64 (-1), .int .i64 (-1), .int .u16 (g : Int)], .bool true]) ∧ Below w.heap.size w w' := by
  have HS := Lib.hid (fun (W : World) (hW : Below w.heap.size w W) => seal_any (3305111552 + g) (by omega) W (ht.below hW))
  have hs : IntKind.u32.wrap (sealW (3305111552 + g) : Int) = ((3305111552 + g : Nat) : Int) := by
    rw [IntKind.wrap_u32']
    unfold sealW
    omega
  unfold freeW
  have HB0 : Hid (∀ x, Below w.heap.size w (w.alloc x)) := fun x => (Below.refl _ _).alloc (Nat.le_refl _) x
  have b0 : ((3305111552 + g : Nat) : Int) / 16777216 = 197 := by omega
  have b1 : ((3305111552 + g : Nat) : Int) / 65536 = 50432 := by omega
  have b2 : ((3305111552 + g : Nat) : Int) / 1048576 = 3152 := by omega
  have b4 : bits .and .u32 50432 15 = 0 := by decide
  have b5 : bits .and .u32 3152 15 = 0 := by decide
  have b3 : IntKind.u16.wrap ((3305111552 + g : Nat) : Int) = (g : Int) := by rw [IntKind.wrap_u16]; omega
  have b6 : ((g : Int) == 0) = false := by rw [beq_eq_false_iff_ne]; omega
  have hx : 3305111552 + g < 4294967296 := by omega
  generalize 3305111552 + g = xx at *
  generalize sealW xx = z at *
  have q1 : ((z : Int) == (z : Int)) = true := by simp
  clear ht
  go_enter Tryz.func305, Tryz.ntmps305
  go_wp2_with (go_at_call 313; refine (HS.out _ (HB0.out _)).mono ?_; rintro e w1 ⟨rfl, hb1⟩; have HB1 := Lib.hid hb1; have hk := (Blk.new w 260 #[.int .i64 0, .int .i64 0, .int .u16 0]).below hb1 (Blk.new w 260 #[.int .i64 0, .int .i64 0, .int .u16 0]).lt; have hlt := hk.lt; have c0 : w1.cell? ⟨w.heap.size, 0, none⟩ = some (.int .i64 0) := hk.cell 0; have c1 : w1.cell? ⟨w.heap.size, 1, none⟩ = some (.int .i64 0) := hk.cell 1; have c2 : w1.cell? ⟨w.heap.size, 2, none⟩ = some (.int .u16 0) := hk.cell 2; have z0 : w1.frozen? ⟨w.heap.size, 0, none⟩ = false := hk.frozen 0; have z1 : w1.frozen? ⟨w.heap.size, 1, none⟩ = false := hk.frozen 1; have z2 : w1.frozen? ⟨w.heap.size, 2, none⟩ = false := hk.frozen 2; clear hb1 hk)
  have n01 : (⟨w.heap.size, 0, none⟩ : Addr) ≠ ⟨w.heap.size, 1, none⟩ := by simp
  have n02 : (⟨w.heap.size, 0, none⟩ : Addr) ≠ ⟨w.heap.size, 2, none⟩ := by simp
  have n12 : (⟨w.heap.size, 1, none⟩ : Addr) ≠ ⟨w.heap.size, 2, none⟩ := by simp
  refine bodyPost_ret (v := .tuple #[.agg #[.int .i64 (-1), .int .i64 (-1), .int .u16 (g : Int)], .bool true]) (by simp [results, Tryz.results305, go_sem, c0, c1, c2, hlt]) rfl ⟨rfl, ?_⟩
  have h0 := (HB0.out (.cells #[.int .i64 0, .int .i64 0, .int .u16 0] 260)).trans (HB1.out.mono (by simp))
  have h1 := ((h0.setCell (p := ⟨w.heap.size, 0, none⟩) (Nat.le_refl _) (.int .i64 (-1))).setCell (p := ⟨w.heap.size, 1, none⟩) (Nat.le_refl _) (.int .i64 (-1))).setCell (p := ⟨w.heap.size, 2, none⟩) (Nat.le_refl _) (.int .u16 (g : Int))
  exact h1.alloc h1.size _
theorem header_cls (c g : Nat) (hc : c < 5) (hg0 : 0 < g) (hg : g < 65536) (w : World) (ht : Tab w) (hp : Pay w) :
    Calls Tryz.prog 305 #[.int .u64 (hdrW c g : Int)] w fun e w' => e = .returned (.tuple #[.agg #[.int .i64 (c : Int), .int .i64 0, .int .u16 (g : Int)], .bool true]) ∧ Below w.heap.size w w' := by
  have hx : hdX c g < 4294967296 := by unfold hdX; omega
  have HS := Lib.hid (fun (W : World) (hW : Below w.heap.size w W) => seal_any (hdX c g) hx W (ht.below hW))
  have HF := Lib.hid (fun (W : World) (hW : Below w.heap.size w W) => formatted_any c g hc W (hp.below hW))
  have hs : IntKind.u32.wrap (sealW (hdX c g) : Int) = (hdX c g : Int) := by
    rw [IntKind.wrap_u32']
    unfold sealW
    omega
  unfold hdrW
  have HB0 : Hid (∀ x, Below w.heap.size w (w.alloc x)) := fun x => (Below.refl _ _).alloc (Nat.le_refl _) x
  have b0 : (hdX c g : Int) / 16777216 = 197 := by unfold hdX; omega
  have b1 : bits .and .u32 ((hdX c g : Int) / 65536) 15 = (c : Int) + 1 := by
    have e : (hdX c g : Int) / 65536 = 50432 + 16 + (c : Int) + 1 := by unfold hdX; omega
    rw [e]
    have hc5 : c = 0 ∨ c = 1 ∨ c = 2 ∨ c = 3 ∨ c = 4 := by omega
    rcases hc5 with rfl | rfl | rfl | rfl | rfl <;> decide
  have b2 : (hdX c g : Int) / 1048576 = 3153 := by unfold hdX; omega
  have b5 : bits .and .u32 3153 15 = 1 := by decide
  have b3 : IntKind.u16.wrap (hdX c g : Int) = (g : Int) := by rw [IntKind.wrap_u16]; unfold hdX; omega
  have b6 : ((g : Int) == 0) = false := by rw [beq_eq_false_iff_ne]; omega
  have d0 : decide ((c : Int) < 0) = false := decide_eq_false (by omega)
  generalize hdX c g = xx at *
  generalize sealW xx = z at *
  have q1 : ((z : Int) == (z : Int)) = true := by simp
  clear ht hp
  go_enter Tryz.func305, Tryz.ntmps305
  go_wp2_with (go_at_call 313; refine (HS.out _ (HB0.out _)).mono ?_; rintro e w1 ⟨rfl, hb1⟩; have HB1 := Lib.hid ((HB0.out (.cells #[.int .i64 0, .int .i64 0, .int .u16 0] 260)).trans (hb1.mono (by simp))); have HK := Lib.hid ((Blk.new w 260 #[.int .i64 0, .int .i64 0, .int .u16 0]).below hb1 (Blk.new w 260 #[.int .i64 0, .int .i64 0, .int .u16 0]).lt); clear hb1)
  have HB2 := Lib.hid (HB1.out.alloc HB1.out.size (.cells #[.int .i64 (c : Int), .int .i64 0, .int .u16 (g : Int)] 260))
  have HK2 := Lib.hid (HK.out.below (Below.refl _ w1 |>.alloc (Nat.le_refl _) (.cells #[.int .i64 (c : Int), .int .i64 0, .int .u16 (g : Int)] 260)) HK.out.lt)
  have HN2 := Lib.hid (Blk.new w1 260 #[.int .i64 (c : Int), .int .i64 0, .int .u16 (g : Int)])
  generalize hw2 : w1.alloc (.cells #[.int .i64 (c : Int), .int .i64 0, .int .u16 (g : Int)] 260) = w2 at *
  have HF2 := Lib.hid (HF.out w2 HB2.out)
  clear HF HS HK HB1 hw2
  refine HF2.out.mono ?_
  rintro e w3 ⟨rfl, hb3⟩
  have HB3 := Lib.hid (HB2.out.trans (hb3.mono HB2.out.size))
  have hk := HK2.out.below hb3 HK2.out.lt
  have hn := HN2.out.below hb3 HN2.out.lt
  have g0 : w3.cell? ⟨w1.heap.size, 0, none⟩ = some (.int .i64 (c : Int)) := hn.cell 0
  have g1 : w3.cell? ⟨w1.heap.size, 1, none⟩ = some (.int .i64 0) := hn.cell 1
  have g2 : w3.cell? ⟨w1.heap.size, 2, none⟩ = some (.int .u16 (g : Int)) := hn.cell 2
  have c0 : w3.cell? ⟨w.heap.size, 0, none⟩ = some (.int .i64 0) := hk.cell 0
  have c1 : w3.cell? ⟨w.heap.size, 1, none⟩ = some (.int .i64 0) := hk.cell 1
  have c2 : w3.cell? ⟨w.heap.size, 2, none⟩ = some (.int .u16 0) := hk.cell 2
  have z0 : w3.frozen? ⟨w.heap.size, 0, none⟩ = false := hk.frozen 0
  have z1 : w3.frozen? ⟨w.heap.size, 1, none⟩ = false := hk.frozen 1
  have z2 : w3.frozen? ⟨w.heap.size, 2, none⟩ = false := hk.frozen 2
  clear hb3 hk hn HF2 HK2 HN2 HB2 HB0
  go_wp2
  have n01 : (⟨w.heap.size, 0, none⟩ : Addr) ≠ ⟨w.heap.size, 1, none⟩ := by simp
  have n02 : (⟨w.heap.size, 0, none⟩ : Addr) ≠ ⟨w.heap.size, 2, none⟩ := by simp
  have n12 : (⟨w.heap.size, 1, none⟩ : Addr) ≠ ⟨w.heap.size, 2, none⟩ := by simp
  refine bodyPost_ret (v := .tuple #[.agg #[.int .i64 (c : Int), .int .i64 0, .int .u16 (g : Int)], .bool true]) (by simp [results, Tryz.results305, go_sem, c0, c1, c2]) rfl ⟨rfl, ?_⟩
  exact ((HB3.out.setCell (p := ⟨w.heap.size, 0, none⟩) (Nat.le_refl _) (.int .i64 (c : Int))).setCell (p := ⟨w.heap.size, 1, none⟩) (Nat.le_refl _) (.int .i64 0)).setCell (p := ⟨w.heap.size, 2, none⟩) (Nat.le_refl _) (.int .u16 (g : Int))
end
end Go.Proofs.YtpihhlbfpbngaaaGreatDoor
namespace Go.Proofs.YtpihhlbfpbngaaaGreatDoor
open Go.RowKit
def lev : List Nat → Nat
  | [] => 0
  | b :: l => b + 256 * lev l
theorem lev_snoc : ∀ (l : List Nat) (b : Nat), lev (l ++ [b]) = lev l + 256 ^ l.length * b
  | [], b => by simp [lev]
  | a :: l, b => by
    show a + 256 * lev (l ++ [b]) = a + 256 * lev l + 256 ^ (l.length + 1) * b
    rw [lev_snoc l b, Nat.pow_succ, Nat.mul_add, Nat.add_assoc, ← Nat.mul_assoc, Nat.mul_comm 256 (256 ^ l.length)]
theorem lev_lt : ∀ (l : List Nat), (∀ b ∈ l, b < 256) → lev l < 256 ^ l.length
  | [], _ => by simp [lev]
  | a :: l, h => by
    have h1 := lev_lt l (fun b hb => h b (by simp [hb]))
    have h2 := h a (by simp)
    show a + 256 * lev l < 256 ^ (l.length + 1)
    rw [Nat.pow_succ]
    omega
theorem lev_byte : ∀ (l : List Nat), (∀ b ∈ l, b < 256) → ∀ k (hk : k < l.length), lev l / 256 ^ k % 256 = l[k]
  | [], _, k, hk => by simp at hk
  | a :: l, h, 0, _ => by
    have := h a (by simp)
    show (a + 256 * lev l) / 256 ^ 0 % 256 = a
    rw [Nat.pow_zero, Nat.div_one]
    omega
  | a :: l, h, k + 1, hk => by
    have hk' : k < l.length := by simpa using hk
    have h1 := lev_byte l (fun b hb => h b (by simp [hb])) k hk'
    have h2 := h a (by simp)
    show (a + 256 * lev l) / 256 ^ (k + 1) % 256 = l[k]'hk'
    rw [Nat.pow_succ, Nat.mul_comm (256 ^ k) 256, ← Nat.div_div_eq_div_mul, show (a + 256 * lev l) / 256 = lev l by omega]
    exact h1
def packW (p : List Nat) : List Nat := (List.range ((p.length + 7) / 8)).map fun j => lev ((p.drop (8 * j)).take 8)
theorem packW_len (p : List Nat) : (packW p).length = (p.length + 7) / 8 := by simp [packW]
theorem packW_lt {p : List Nat} (h : ∀ b ∈ p, b < 256) : ∀ x ∈ packW p, x < 18446744073709551616 := fun x hx => by
  obtain ⟨j, _, rfl⟩ := List.mem_map.1 hx
  have h1 := lev_lt ((p.drop (8 * j)).take 8) (fun b hb => h b (List.mem_of_mem_drop (List.mem_of_mem_take hb)))
  have h2 : ((p.drop (8 * j)).take 8).length ≤ 8 := by simp; omega
  have h3 : 256 ^ ((p.drop (8 * j)).take 8).length ≤ 256 ^ 8 := Nat.pow_le_pow_right (by omega) h2
  have h4 : (256 : Nat) ^ 8 = 18446744073709551616 := by decide
  omega
theorem packW_byte {p : List Nat} (h : ∀ b ∈ p, b < 256) {i : Nat} (hi : i < p.length) : ∃ x, (packW p)[i / 8]? = some x ∧ x / 256 ^ (i % 8) % 256 = p[i] := by
  refine ⟨lev ((p.drop (8 * (i / 8))).take 8), ?_, ?_⟩
  · unfold packW
    rw [List.getElem?_map, List.getElem?_range (by omega)]
    rfl
  · have hl : i % 8 < ((p.drop (8 * (i / 8))).take 8).length := by simp; omega
    rw [lev_byte _ (fun b hb => h b (List.mem_of_mem_drop (List.mem_of_mem_take hb))) _ hl]
    simp only [List.getElem_take, List.getElem_drop]
    congr 1
    omega
def bSize (n : Nat) : Nat := if 456 < n then 60 else payW (clsOf (3 + (n + 7) / 8))
theorem bSize_le (n : Nat) : 3 ≤ bSize n ∧ bSize n ≤ 60 := by
  unfold bSize
  split
  · omega
  · exact pay_le _
theorem clsOf_ge {n : Nat} (h : n ≤ 60) : n ≤ payW (clsOf n) := by
  unfold clsOf
  split
  · simp only [payW]; omega
  · split
    · simp only [payW]; omega
    · split
      · simp only [payW]; omega
      · split
        · simp only [payW]; omega
        · simp only [payW]; omega
theorem clsOf_lt (n : Nat) : clsOf n < 5 := by
  unfold clsOf
  repeat' split
  all_goals omega
theorem bSize_ge (n : Nat) : 3 + (min n 456 + 7) / 8 ≤ bSize n := by
  unfold bSize
  split
  · omega
  · have := clsOf_ge (n := 3 + (n + 7) / 8) (by omega)
    omega
def payB (next : Nat) (p : List Nat) : List Nat := [next, p.length * 4294967297] ++ packW (p.take 456) ++ List.replicate (bSize p.length - 3 - (packW (p.take 456)).length) 0
def payL (next : Nat) (p : List Nat) : List Nat := payB next p ++ [sumW (payB next p)]
theorem payB_len (next : Nat) (p : List Nat) : (payB next p).length = bSize p.length - 1 := by
  have h := bSize_ge p.length
  unfold payB
  simp only [List.length_append, List.length_cons, List.length_nil, List.length_replicate, packW_len, List.length_take]
  rw [Nat.min_comm] at h
  omega
theorem payL_len (next : Nat) (p : List Nat) : (payL next p).length = bSize p.length := by
  have h := bSize_le p.length
  unfold payL
  rw [List.length_append, payB_len]
  simp
  omega
theorem payB_lt {next : Nat} {p : List Nat} (hn : next < 18446744073709551616) (hp : ∀ b ∈ p, b < 256) (hl : p.length ≤ 2000) : ∀ x ∈ payB next p, x < 18446744073709551616 := fun x hx => by
  unfold payB at hx
  rcases List.mem_append.1 hx with hx | hx
  · rcases List.mem_append.1 hx with hx | hx
    · simp at hx
      rcases hx with rfl | rfl
      · exact hn
      · omega
    · exact packW_lt (fun b hb => hp b (List.mem_of_mem_take hb)) x hx
  · have := (List.mem_replicate.1 hx).2
    omega
theorem payL_lt {next : Nat} {p : List Nat} (hn : next < 18446744073709551616) (hp : ∀ b ∈ p, b < 256) (hl : p.length ≤ 2000) : ∀ x ∈ payL next p, x < 18446744073709551616 := fun x hx => by
  unfold payL at hx
  rcases List.mem_append.1 hx with hx | hx
  · exact payB_lt hn hp hl x hx
  · have := sumW_lt (payB next p)
    simp at hx
    omega
end Go.Proofs.YtpihhlbfpbngaaaGreatDoor
