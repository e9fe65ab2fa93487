/- The walks and laws that the claim leans on, part 15. -/
import Derived.Test.YtnlokpakiambaaaGreatDoorJan
set_option maxRecDepth 100000
set_option maxHeartbeats 16000000
namespace Go.Proofs.YtnlokpakiambaaaGreatDoor
open Go.Lib (hid)
section
open Go.RowKit
def dirCells (a : DA) (h r : Nat) : Array Value := #[.pointer (some ⟨h, 0, none⟩), .pointer (some ⟨a.th 0, 0, none⟩), .pointer (some ⟨r, 0, none⟩)]
def dirV (d : Nat) : Value := .iface 43 (.pointer (some ⟨d, 0, none⟩))
theorem methDStore (p : Option Addr) (w : World) : (method 563 43 (.pointer p) "Store").run Tryz.prog w = .ok (293, .pointer p) w := by kernel_rfl
theorem methDFlush (p : Option Addr) (w : World) : (method 563 43 (.pointer p) "Flush").run Tryz.prog w = .ok (290, .pointer p) w := by kernel_rfl
theorem methDFence (p : Option Addr) (w : World) : (method 563 43 (.pointer p) "Fence").run Tryz.prog w = .ok (289, .pointer p) w := by kernel_rfl
theorem methDLoad (p : Option Addr) (w : World) : (method 563 43 (.pointer p) "Load").run Tryz.prog w = .ok (291, .pointer p) w := by kernel_rfl
theorem methDErr (p : Option Addr) (w : World) : (method 563 43 (.pointer p) "Err").run Tryz.prog w = .ok (288, .pointer p) w := by kernel_rfl
theorem methDSize (p : Option Addr) (w : World) : (method 563 43 (.pointer p) "Size").run Tryz.prog w = .ok (292, .pointer p) w := by kernel_rfl
section
variable {a : DA} {L T : Nat} {w : World} {S : Fp} {cur : Nat → Nat} {F : Nat} {d g r : Nat}
theorem storeD (h : Dev a L T w S cur 0) (hB : Blk w d 147 (dirCells a g r)) (off v : Nat) (h8 : off % 8 = 0) (hlt : off < 64 * L) (hT : T < 1000000000) :
  Calls Tryz.prog 293 #[.pointer (some ⟨d, 0, none⟩), .int .u64 (off : Int), .int .u64 (v : Int)] w (RetDev a L (T + 1) w S (upd cur (off / 8) v) 0 (.tuple #[])) := by
 have HD := hid (store_dev h off v h8 hlt hT)
 have c1 : w.cell? ⟨d, 1, none⟩ = some (.pointer (some ⟨a.th 0, 0, none⟩)) := hB.cell 1
 clear h hB
 go_enter Tryz.func293, Tryz.ntmps293
 go_wp2_with fail
 refine HD.out.mono ?_
 rintro e w1 ⟨rfl, S1, hd1, hc1, hg1⟩
 have HE := hid (show Dev a L (T + 1) w1 S1 (upd cur (off / 8) v) 0 ∧ Chg S w w1 ∧ Grew S S1 w from ⟨hd1, hc1, hg1⟩)
 clear hd1 hc1 hg1
 go_wp2
 go_end0
 exact ⟨rfl, S1, HE.out.1, HE.out.2.1, HE.out.2.2⟩
theorem flushD (h : Dev a L T w S cur F) (hB : Blk w d 147 (dirCells a g r)) (off : Nat) (hlt : off < 64 * L) (hF : F < 1000000000) :
  Calls Tryz.prog 290 #[.pointer (some ⟨d, 0, none⟩), .int .u64 (off : Int)] w (RetDev a L T w S cur (F + 1) (.tuple #[])) := by
 have HD := hid (flush_dev h off hlt hF)
 have c1 : w.cell? ⟨d, 1, none⟩ = some (.pointer (some ⟨a.th 0, 0, none⟩)) := hB.cell 1
 clear h hB
 go_enter Tryz.func290, Tryz.ntmps290
 go_wp2_with fail
 refine HD.out.mono ?_
 rintro e w1 ⟨rfl, S1, hd1, hc1, hg1⟩
 have HE := hid (show Dev a L T w1 S1 cur (F + 1) ∧ Chg S w w1 ∧ Grew S S1 w from ⟨hd1, hc1, hg1⟩)
 clear hd1 hc1 hg1
 go_wp2
 go_end0
 exact ⟨rfl, S1, HE.out.1, HE.out.2.1, HE.out.2.2⟩
theorem fenceD (h : Dev a L T w S cur F) (hB : Blk w d 147 (dirCells a g r))  :
  Calls Tryz.prog 289 #[.pointer (some ⟨d, 0, none⟩)] w (RetDev a L T w S cur 0 (.tuple #[])) := by
 have HD := hid (fence_dev h)
 have c1 : w.cell? ⟨d, 1, none⟩ = some (.pointer (some ⟨a.th 0, 0, none⟩)) := hB.cell 1
 clear h hB
 go_enter Tryz.func289, Tryz.ntmps289
 go_wp2_with fail
 refine HD.out.mono ?_
 rintro e w1 ⟨rfl, S1, hd1, hc1, hg1⟩
 have HE := hid (show Dev a L T w1 S1 cur 0 ∧ Chg S w w1 ∧ Grew S S1 w from ⟨hd1, hc1, hg1⟩)
 clear hd1 hc1 hg1
 go_wp2
 go_end0
 exact ⟨rfl, S1, HE.out.1, HE.out.2.1, HE.out.2.2⟩
theorem loadD (h : Dev a L T w S cur F) (hB : Blk w d 147 (dirCells a g r)) (off v : Nat) (h8 : off % 8 = 0) (hlt : off < 64 * L) (hv : cur (off / 8) = v) :
  Calls Tryz.prog 291 #[.pointer (some ⟨d, 0, none⟩), .int .u64 (off : Int)] w (fun e w' => e = .returned (.int .u64 (v : Int)) ∧ w = w') := by
 have HD := hid (load_at h off v h8 hlt hv w (Below.refl _ _))
 have c1 : w.cell? ⟨d, 1, none⟩ = some (.pointer (some ⟨a.th 0, 0, none⟩)) := hB.cell 1
 clear h hB
 go_enter Tryz.func291, Tryz.ntmps291
 go_wp2_with fail
 refine HD.out.mono ?_
 rintro e w1 ⟨rfl, rfl⟩
 go_wp2
 go_ret
 exact ⟨rfl, rfl⟩
theorem errD (h : Dev a L T w S cur F) (hB : Blk w d 147 (dirCells a g r))  :
  Calls Tryz.prog 288 #[.pointer (some ⟨d, 0, none⟩)] w (fun e w' => e = .returned (.int .i64 0) ∧ w = w') := by
 have HD := hid (thErr h)
 have c1 : w.cell? ⟨d, 1, none⟩ = some (.pointer (some ⟨a.th 0, 0, none⟩)) := hB.cell 1
 clear h hB
 go_enter Tryz.func288, Tryz.ntmps288
 go_wp2_with fail
 refine HD.out.mono ?_
 rintro e w1 ⟨rfl, rfl⟩
 go_wp2
 go_ret
 exact ⟨rfl, rfl⟩
theorem sizeD (h : Dev a L T w S cur F) (hB : Blk w d 147 (dirCells a g r))  :
  Calls Tryz.prog 292 #[.pointer (some ⟨d, 0, none⟩)] w (fun e w' => e = .returned (.int .u64 ((64 * L : Nat) : Int)) ∧ w = w') := by
 have HD := hid (size_dev h)
 rw [show ((64 * L : Nat) : Int) = (L : Int) * 64 by omega] at *
 have c1 : w.cell? ⟨d, 1, none⟩ = some (.pointer (some ⟨a.th 0, 0, none⟩)) := hB.cell 1
 clear h hB
 go_enter Tryz.func292, Tryz.ntmps292
 go_wp2_with fail
 refine HD.out.mono ?_
 rintro e w1 ⟨rfl, rfl⟩
 go_wp2
 go_ret
 exact ⟨rfl, rfl⟩
end
theorem execD_st {a : DA} {L T : Nat} {w : World} {S : Fp} {cur : Nat → Nat} {d g r : Nat} (h : Dev a L T w S cur 0) (hB : Blk w d 147 (dirCells a g r)) (off v : Nat) (h8 : off % 8 = 0) (hlt : off < 64 * L) (hT : T < 1000000000) :
  Calls Tryz.prog 114 #[.agg #[.int .u8 1, .int .u64 (off : Int), .int .u64 (v : Int)], dirV d] w (RetDev a L (T + 1) w S (upd cur (off / 8) v) 0 (.tuple #[])) := by
 have HW := hid (fun o => h.below ((Below.refl _ w).alloc (Nat.le_refl _) o))
 have HBD := hid (fun o => hB.alloc o)
 clear h hB
 have hm := methDStore (some ⟨d, 0, none⟩)
 unfold dirV
 go_enter Tryz.func114, Tryz.ntmps114
 go_wp2_with fail
 refine (storeD (HW.out _) (HBD.out _) off v h8 hlt hT).mono ?_
 rintro e w1 ⟨rfl, S1, hd1, hc1, hg1⟩
 have HD := hid hd1
 have HC : Hid (Chg S w w1) := ((Chg.refl S w).alloc _).trans hc1 (Grew.refl _ _)
 have HG : Hid (Grew S S1 w) := fun k hk => (hg1 k hk).imp id (fun h => by simp at h; omega)
 clear hd1 hc1 hg1
 go_wp2
 go_end0
 exact ⟨rfl, S1, HD.out, HC.out, HG.out⟩
theorem execD_fl {a : DA} {L T : Nat} {w : World} {S : Fp} {cur : Nat → Nat} {F : Nat} {d g r : Nat} (h : Dev a L T w S cur F) (hB : Blk w d 147 (dirCells a g r)) (off : Nat) (hlt : off < 64 * L) (hF : F < 1000000000) :
  Calls Tryz.prog 114 #[.agg #[.int .u8 2, .int .u64 (off : Int), .int .u64 0], dirV d] w (RetDev a L T w S cur (F + 1) (.tuple #[])) := by
 have HW := hid (fun o => h.below ((Below.refl _ w).alloc (Nat.le_refl _) o))
 have HBD := hid (fun o => hB.alloc o)
 clear h hB
 have hm := methDFlush (some ⟨d, 0, none⟩)
 unfold dirV
 go_enter Tryz.func114, Tryz.ntmps114
 go_wp2_with fail
 refine (flushD (HW.out _) (HBD.out _) off hlt hF).mono ?_
 rintro e w1 ⟨rfl, S1, hd1, hc1, hg1⟩
 have HD := hid hd1
 have HC : Hid (Chg S w w1) := ((Chg.refl S w).alloc _).trans hc1 (Grew.refl _ _)
 have HG : Hid (Grew S S1 w) := fun k hk => (hg1 k hk).imp id (fun h => by simp at h; omega)
 clear hd1 hc1 hg1
 go_wp2
 go_end0
 exact ⟨rfl, S1, HD.out, HC.out, HG.out⟩
theorem execD_fe {a : DA} {L T : Nat} {w : World} {S : Fp} {cur : Nat → Nat} {F : Nat} {d g r : Nat} (h : Dev a L T w S cur F) (hB : Blk w d 147 (dirCells a g r))  :
  Calls Tryz.prog 114 #[.agg #[.int .u8 3, .int .u64 0, .int .u64 0], dirV d] w (RetDev a L T w S cur 0 (.tuple #[])) := by
 have HW := hid (fun o => h.below ((Below.refl _ w).alloc (Nat.le_refl _) o))
 have HBD := hid (fun o => hB.alloc o)
 clear h hB
 have hm := methDFence (some ⟨d, 0, none⟩)
 unfold dirV
 go_enter Tryz.func114, Tryz.ntmps114
 go_wp2_with fail
 refine (fenceD (HW.out _) (HBD.out _)).mono ?_
 rintro e w1 ⟨rfl, S1, hd1, hc1, hg1⟩
 have HD := hid hd1
 have HC : Hid (Chg S w w1) := ((Chg.refl S w).alloc _).trans hc1 (Grew.refl _ _)
 have HG : Hid (Grew S S1 w) := fun k hk => (hg1 k hk).imp id (fun h => by simp at h; omega)
 clear hd1 hc1 hg1
 go_wp2
 go_end0
 exact ⟨rfl, S1, HD.out, HC.out, HG.out⟩
theorem execD_any {a : DA} {L T : Nat} {w : World} {S : Fp} {cur : Nat → Nat} {F : Nat} {d g r : Nat} (h : Dev a L T w S cur F) (hB : Blk w d 147 (dirCells a g r)) (i : Ins) (b : Bool) (hg : goodI L b i) (hb : b = false → F = 0) (hT : T < 1000000000) (hF : F < 1000000000) :
  Calls Tryz.prog 114 #[.agg #[.int .u8 (i.op : Int), .int .u64 (i.o : Int), .int .u64 (i.v : Int)], dirV d] w (RetIns a L (T + 1) w S (runI cur i) F (noteI b i)) := by
 cases i with
 | st o v =>
  obtain ⟨h1, h2, h3, _⟩ := hg
  have hF0 := hb h1
  subst hF0
  refine (execD_st h hB o v h2 h3 hT).mono ?_
  rintro e w' ⟨rfl, S', hd, hc, hgr⟩
  exact ⟨rfl, S', 0, hd, fun _ => rfl, Nat.zero_le _, hc, hgr⟩
 | fl o =>
  refine (execD_fl h hB o hg hF).mono ?_
  rintro e w' ⟨rfl, S', hd, hc, hgr⟩
  exact ⟨rfl, S', F + 1, hd.more (by omega) (by omega), fun h => (by cases h), Nat.le_refl _, hc, hgr⟩
 | fe =>
  refine (execD_fe h hB).mono ?_
  rintro e w' ⟨rfl, S', hd, hc, hgr⟩
  exact ⟨rfl, S', 0, hd.more (by omega) (by omega), fun _ => rfl, Nat.zero_le _, hc, hgr⟩
def RunDI (a : DA) (L T : Nat) (w wr : World) (S : Fp) (cur : Nat → Nat) (p : List Ins) (k : Nat) : Prop :=
 ∃ S' F', Dev a L (T + k) wr S' (runP cur (p.take k)) F' ∧ (noteP false (p.take k) = false → F' = 0) ∧ F' ≤ k ∧ Chg S w wr ∧ Grew S S' w
theorem runD_any {a : DA} {L T : Nat} {w : World} {S : Fp} {cur : Nat → Nat} {d g r : Nat} (h : Dev a L T w S cur 0) (hB : Blk w d 147 (dirCells a g r)) (hdS : ¬ S d) (A : Option Addr) (n c : Nat) (p : List Ins) (hr : Reads w w.heap.size 3 A n (insCells p)) (hoff : ∀ ad, A = some ad → ¬ S ad.block) (hg : goodP L false p) (hn : n ≤ 1000000) (hT : T + n ≤ 1000000000) :
  Calls Tryz.prog 74 #[.slice A n c, dirV d] w (RetDev a L (T + n) w S (runP cur p) 0 (.int .i64 0)) := by
 have HV := hid (validP_any A n c p w hr hn)
 have HLN := hid (show p.length = n by have := hr.1; rw [insCells_len] at this; omega)
 have HR := hid hr
 have HOF := hid hoff
 have HGD := hid hg
 have HD0 := hid h
 have HSL := hid h.lt
 have hmE := methDErr (some ⟨d, 0, none⟩)
 have hq : ∀ W, (binOp .eql 166 (.iface 43 (.pointer (some ⟨d, 0, none⟩))) .nilIface).run Tryz.prog W = .ok (.bool false) W := fun W => by rfl
 have HBB := hid (show Blk w d _ _ ∧ ¬ S d from ⟨hB, hdS⟩)
 clear h hr hoff hg hB hdS
 unfold dirV
 go_enter Tryz.func74, Tryz.ntmps74
 go_wp2_with (go_at_call 113; refine HV.out.mono ?_; rintro e w1 ⟨rfl, hb1⟩; have HI0 : Hid (RunDI a L T w w1 S cur p 0) := ⟨S, 0, HD0.out.below hb1, fun _ => rfl, Nat.le_refl _, Chg.of_below hb1, Grew.refl _ _⟩; clear hb1)
 go_loopw [16] (fun i wr => ∃ (k : Nat), k ≤ n ∧ i = .int .i64 k ∧ Hid (RunDI a L T w wr S cur p k)) (fun i _ => n - (Go.RowKit.intOf i).toNat)
 case atStart => exact ⟨0, Nat.zero_le _, rfl, HI0⟩
 case round =>
  clear HI0 HD0 HV
  obtain ⟨k, hk, rfl, H⟩ := hrel
  by_cases hlt : k < n
  ·obtain ⟨S1, F1, hd, hf, hF1, hC, hG⟩ := H.out
   obtain ⟨hl, b, off, hA, hbB, f0, f1, f2⟩ := ins_facts (hC.reads HR.out (Nat.le_refl _) HOF.out) hlt
   subst hA
   have hgi := goodP_at HGD.out k hl
   have HEX := hid (fun o => execD_any (hd.below ((Below.refl _ wr).alloc (Nat.le_refl _) o)) ((hC.blk HBB.out.1 HBB.out.2).alloc o) p[k] (noteP false (p.take k)) hgi hf (by omega) (by omega))
   have HRP : Hid (runI (runP cur (p.take k)) p[k] = runP cur (p.take (k + 1))) := show _ = _ by rw [List.take_succ_eq_append_getElem hl, runP_snoc]
   have HNP : Hid (noteI (noteP false (p.take k)) p[k] = noteP false (p.take (k + 1))) := show _ = _ by rw [List.take_succ_eq_append_getElem hl, noteP_app]; rfl
   rw [HRP.out, HNP.out] at HEX
   have HC := hid hC
   have HG := hid hG
   unfold dirV at HEX
   generalize (p[k]).op = op at *
   generalize (p[k]).o = o at *
   generalize (p[k]).v = v at *
   have hz0 : (0 : Int) ≤ (k : Int) := by omega
   have hz1 : (k : Int) < (n : Int) := by omega
   clear hgi hd hf hC hG H HRP HNP
   go_wp2_with fail
   refine (HEX.out _).mono ?_
   rintro e w2 ⟨rfl, S2, F2, hd2, hf2, hF2, hC2, hG2⟩
   have HN : Hid (RunDI a L T w w2 S cur p (k + 1)) := ⟨S2, F2, by rw [← Nat.add_assoc]; exact hd2, hf2, by omega, HC.out.trans (S' := S1) (((Chg.refl S1 wr).alloc _).trans hC2 (Grew.refl _ _)) HG.out, HG.out.trans (w1 := wr) (fun j hj => (hG2 j hj).imp id (fun h => by simp at h; omega)) HC.out.size⟩
   clear hd2 hf2 hF2 hC2 hG2
   go_wp2
   go_roundw
   case rel => exact ⟨k + 1, by omega, by go_num, HN⟩
   case measure => simp [Go.RowKit.intOf]; omega
  ·obtain rfl : n = k := by omega
   obtain ⟨S1, F1, hd, hf, hF1, hC, hG⟩ := H.out
   rw [List.take_of_length_le (by rw [HLN.out]; exact Nat.le_refl _)] at hd hf
   have hF0 := hf (goodP_end HGD.out)
   subst hF0
   have HD := hid hd
   have HC := hid hC
   have HG := hid hG
   have HER := hid (errD hd (hC.blk HBB.out.1 HBB.out.2))
   clear hd hC hG hf H
   go_wp2_with (go_at_call 288; refine HER.out.mono ?_; rintro e w2 ⟨rfl, rfl⟩)
   go_ret
   exact ⟨rfl, S1, HD.out, HC.out, HG.out⟩
end
end Go.Proofs.YtnlokpakiambaaaGreatDoor
